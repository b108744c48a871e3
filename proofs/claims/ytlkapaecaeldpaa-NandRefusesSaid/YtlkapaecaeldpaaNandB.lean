/-
  Packages plan and strakeref07.
-/
import Derived.Test.YtlkapaecaeldpaaNandA
import Derived.Test.YtlkapaecaeldpaaRef04
set_option linter.unusedVariables false
set_option linter.unusedSimpArgs false
set_option maxRecDepth 16384
namespace Go.Proofs.Ytlkapaecaeldpaa
open Go.RowKit

def PlanNewPost (t : TypeId) (w : World) (xs : List Int) (e : Ending) (w' : World) : Prop :=
  ∃ p lv, e = .returned (.pointer (some ⟨p, 0, none⟩)) ∧ Blk w' p t [lv, .int .i64 0] ∧ SlQ w' (fun k => w.heap.size ≤ k ∧ k ≠ p) lv (bv xs) ∧ w.heap.size ≤ p ∧ Below w.heap.size w w'

set_option maxHeartbeats 400000 in
theorem planNew_any (v : Value) (xs : List Int) (w : World) (hs : Sl w 0 v (bv xs)) :
    Calls Try.prog 73 #[v] w fun e w' => PlanNewPost 163 w xs e w' := by
  obtain ⟨i0, hif, hz0, hz1, hz2⟩ := info_parts info_u8
  obtain ⟨a, cap, rfl, h1, h2, h3⟩ := hs.bytes
  have HS := Lib.hid hs
  clear hs h3
  go_enter Try.func73, Try.ntmps73
  go_wp2_with (first | (at_builtin; refine wpList_append_sl _ rfl (.tmp 3) (.tmp 4) 45 rfl w.heap.size 5 i0 (.int .u8 0) 1 Try.underlying45 hif hz0 hz1 hz2 rfl (.slice (some ⟨w.heap.size, 0, none⟩) 0 0) 0 [] rfl (World.ownsRow_made w #[] 0 (Nat.le_refl _) (Nat.zero_le _) rfl) 0 _ (bv xs) rfl ?hsl ?h1 ?h63 ?hby ?hba ?K))
  case hsl => exact HS.out.below ((Below.refl _ _).alloc (Nat.le_refl _) _)
  case h1 => exact oneCell_bv xs
  case h63 => rw [bv_length]; unfold maxLen; omega
  case hby => rw [bv_length]; omega
  case hba => simp
  case K =>
    intro u1 w1 hown hgrow
    rw [bv_length] at hown
    obtain ⟨ua, uc, rfl⟩ := own_slice hown
    have hb1 : Below w.heap.size w w1 := ((Below.refl _ _).alloc (Nat.le_refl _) (.cells #[] 5)).grown hgrow (by simp) (fun k hk => by simp [Value.ownBlock] at hk; omega)
    have hs1 := SlQ.of_sl (Sl.of_own hown (by rw [bv_length]; omega))
    have hbx : Below w1.heap.size w1 (w1.alloc (.cells #[.slice ua xs.length uc, .int .i64 0] 163)) := (Below.refl _ _).alloc (Nat.le_refl _) _
    have HP : Hid (PlanNewPost 163 w xs (.returned (.pointer (some ⟨w1.heap.size, 0, none⟩))) (w1.alloc (.cells #[.slice ua xs.length uc, .int .i64 0] 163))) := Lib.hid ⟨w1.heap.size, _, rfl, Blk.new w1 163 [.slice ua xs.length uc, .int .i64 0],
      (hs1.keep hbx.size fun k hk _ => hbx.block k hk).mono (fun k _ hk => ⟨hk.1, by omega⟩), hb1.size, hb1.trans (hbx.mono hb1.size)⟩
    clear hs1 hb1 hbx hown hgrow HS
    go_wp2_with fail
    go_ret
    exact HP.out

/-- what a byte of a plan says -/
def saysB (b : Int) : Int := if b % 4 = 3 then 0 else b % 4
/-- what becomes of the next one -/
def nextP (p : List Int) (s : Int) : Int × Int :=
  match p with
  | [] => (0, 0)
  | b :: _ => if saysB b = 2 ∧ 0 ≤ s ∧ s ≤ 4 then (2, b / 4 % (s + 1)) else (saysB b, 0)

theorem planSays_any (b : Int) (w : World) (hb : IsB b) :
    Calls Try.prog 118 #[.int .u8 b] w fun e w' => e = .returned (.int .i64 (saysB b)) ∧ w = w' := by
  obtain ⟨h0, h1⟩ := hb
  have htm : b.tmod 4 = b % 4 := Int.tmod_eq_emod_of_nonneg h0
  have hw0 : IntKind.i64.wrap b = b := wrap_in _ ⟨by omega, by omega⟩
  have hw : IntKind.i64.wrap (b % 4) = b % 4 := wrap_in _ ⟨by omega, by omega⟩
  have hS : Hid (saysB b = if b % 4 = 3 then 0 else b % 4) := Lib.hid rfl
  have hm0 : 0 ≤ b % 4 := by omega
  have hm3 : b % 4 ≤ 3 := by omega
  obtain ⟨m, hm⟩ : ∃ m, b % 4 = m := ⟨_, rfl⟩
  rw [hm] at htm hw hS hm0 hm3
  clear hm
  by_cases h3 : m = 3
  · have h2 : 2 < m := by omega
    have HS : Hid (saysB b = 0) := by show _ = _; rw [hS.out, if_pos h3]
    clear h3
    go_enter Try.func118, Try.ntmps118
    go_wp2_with fail
    go_ret
    exact ⟨ret_int HS.out.symm, rfl⟩
  · have h2 : m ≤ 2 := by omega
    have HS : Hid (saysB b = m) := by show _ = _; rw [hS.out, if_neg h3]
    clear h3
    go_enter Try.func118, Try.ntmps118
    go_wp2_with fail
    go_ret
    exact ⟨ret_int HS.out.symm, rfl⟩

theorem elem_u8s : Try.prog.underlying 45 = some (.slice (Try.prog.elem 45)) := by kernel_rfl
theorem size_u8 (w : World) : (sizeOf (Try.prog.elem 45)).run Try.prog w = .ok 1 w := by kernel_rfl
/-- the rest of a plan -/
theorem run_slice_rest (lb off n cap : Nat) (h : n + 1 ≤ cap) (w : World) :
    (Instr.slice 45 (.slice (some ⟨lb, off, none⟩) (n + 1) cap) (some (.int .i64 1)) (some (.int .i64 ((n : Int) + 1))) (some (.int .i64 ((n : Int) + 1)))).run Try.prog w = .ok (.slice (some ⟨lb, if n = 0 then off else off + 1, none⟩) n n) w := by
  rw [run_slice_lhm w _ _ _ _ elem_u8s _ _ _ _ _ _ (by omega) (by omega) (by omega) (by omega), size_u8]
  have e1 : ((n : Int) + 1).toNat = n + 1 := by omega
  have e2 : (1 : Int).toNat = 1 := rfl
  simp only [Result.andThen, sliced, e1, e2, Nat.add_sub_cancel]
  by_cases h0 : n = 0
  · subst h0; rfl
  · rw [if_neg (by omega), if_neg h0, Option.map_some, addr_add]

def PlanNextPost (w : World) (Q : Nat → Prop) (pb : Nat) (pl : List Int) (m s : Int) (e : Ending) (w' : World) : Prop :=
  e = .returned (.tuple #[.int .i64 (nextP pl s).1, .int .i64 (nextP pl s).2]) ∧ (∃ lv, Blk w' pb 163 [lv, .int .i64 (IntKind.i64.wrap (m + 1))] ∧ SlQ w' Q lv (bv pl.tail)) ∧ OnlyF (fun k => k = pb) w w'

set_option maxHeartbeats 1000000 in
theorem planNext_any {w : World} {Q : Nat → Prop} {pb : Nat} {lv : Value} {pl : List Int} {m : Int} (HP : Blk w pb 163 [lv, .int .i64 m]) (HL : SlQ w Q lv (bv pl)) (hQ : ¬ Q pb) (hB : ∀ x ∈ pl, IsB x) (s : Int) (hs : IsInt s) :
    Calls Try.prog 78 #[.pointer (some ⟨pb, 0, none⟩), .int .i64 s] w fun e w' => PlanNextPost w Q pb pl m s e w' := by
  obtain ⟨a, cap, rfl, h1, h2, h3, h4⟩ := HL
  rw [bv_length] at h1 h2 HP
  have p0 : w.cell? ⟨pb, 0, none⟩ = some (.slice a pl.length cap) := HP.cell 0
  have p1 : w.cell? ⟨pb, 1, none⟩ = some (.int .i64 m) := HP.cell 1
  have f0 := HP.free 0
  have f1 := HP.free 1
  have hpl := HP.lt
  obtain ⟨M, hM⟩ : ∃ M, IntKind.i64.wrap (m + 1) = M := ⟨_, rfl⟩
  have hp1 := HP.set 1 (.int .i64 M)
  have ho1 : OnlyF (fun k => k = pb) w (w.setCell ⟨pb, 1, none⟩ (.int .i64 M)) := OnlyF.setCell (F := fun k => k = pb) (OnlyF.refl _ w) (p := ⟨pb, 1, none⟩) rfl _
  have HPOST : Hid (∀ e w', PlanNextPost w Q pb pl m s e w' ↔ _) := fun e w' => by unfold PlanNextPost; rw [hM]
  cases pl with
  | nil =>
    have HF : Hid (PlanNextPost w Q pb [] m s (.returned (.tuple #[.int .i64 0, .int .i64 0])) (w.setCell ⟨pb, 1, none⟩ (.int .i64 M))) := by
      refine (HPOST.out _ _).2 ⟨rfl, ⟨_, hp1, ?_⟩, ho1⟩
      exact ⟨a, cap, rfl, h1, h2, h3, .inl rfl⟩
    clear HP hp1 ho1 h4 HPOST
    simp only [List.length_nil] at *
    go_enter Try.func78, Try.ntmps78
    go_wp2_with fail
    go_ret2
    exact HF.out
  | cons b t =>
    rcases h4 with h4 | ⟨lb, off, rfl, hq, hlb, hcells⟩
    · simp [bv] at h4
    have c0 : w.cell? ⟨lb, off, none⟩ = some (.int .u8 b) := hcells 0 _ rfl
    have hne : lb ≠ pb := fun e => hQ (e ▸ hq)
    simp only [List.length_cons] at *
    obtain ⟨n, hn⟩ : ∃ n, t.length = n := ⟨_, rfl⟩
    have HN := Lib.hid hn
    rw [hn] at h1 h2 p0 hp1
    clear hn
    obtain ⟨off', hoff⟩ : ∃ x, (if n = 0 then off else off + 1) = x := ⟨_, rfl⟩
    have hsl := run_slice_rest lb off n cap (by omega)
    rw [hoff] at hsl
    have HS1 : Hid (SlQ (w.setCell ⟨pb, 1, none⟩ (.int .i64 M)) Q (.slice (some ⟨lb, off', none⟩) n n) (bv t)) := by
      by_cases h0 : n = 0
      · have ht : t = [] := List.eq_nil_of_length_eq_zero (by rw [HN.out]; exact h0)
        subst ht
        subst h0
        exact ⟨_, 0, rfl, by simp [bv], by simp [bv], nofun, .inl rfl⟩
      rw [if_neg h0] at hoff
      subst hoff
      refine ⟨some ⟨lb, off + 1, none⟩, n, by rw [bv_length, HN.out], by rw [bv_length, HN.out]; exact Nat.le_refl _, by rw [bv_length, HN.out]; omega, nofun, .inr ⟨lb, off + 1, rfl, hq, by simpa using hlb, fun j x hx => ?_⟩⟩
      rw [World.cell?_setCell_other _ _ _ _ (fun e => hne (by injection e with e; exact e.symm))]
      have := hcells (j + 1) x (by simpa [bv] using hx)
      rwa [show off + (j + 1) = off + 1 + j by omega] at this
    have HB1 := Lib.hid hp1
    have HO1 := Lib.hid ho1
    have hb := hB b (List.mem_cons_self ..)
    have HBB := Lib.hid hb
    have HQ := Lib.hid hQ
    have HPO := Lib.hid HPOST.out
    clear HP hp1 ho1 HPOST hcells hB hb hoff
    go_enter Try.func78, Try.ntmps78
    go_wp2_with fail
    refine wp_region_b 16 (by kernel_rfl) (by kernel_rfl) ?_
    simp only [List.take_succ_cons, List.take_zero, List.drop_succ_cons, List.drop_zero]
    repeat (first
      | (refine SeqC.run (v := ?_) ?_ (fun wz hz => ?_) ?_; rotate_left; (· rfl); (· have hzc := hz.cell; have hzf := hz.frozen; go_simp; first | exact UponS.value hz | exact UponS.skip hz | (refine UponS.call ?_; fail)); (try simp only [Act.put, List.setIfInBounds_toArray, List.set_cons_zero, List.set_cons_succ]))
      | (refine SeqC.skip ?_ ?_; (· rfl); (try simp only [Act.put, List.setIfInBounds_toArray, List.set_cons_zero, List.set_cons_succ])))
    refine fun wz hz => ?_
    have hbz : Below (w.setCell ⟨pb, 1, none⟩ (.int .i64 M)).heap.size (w.setCell ⟨pb, 1, none⟩ (.int .i64 M)) wz := (Below.refl _ _).drew.trans hz.below
    have hpz := HB1.out.below hbz
    have y0 := hpz.free 0
    have yc0 : wz.cell? ⟨pb, 0, none⟩ = some (.slice (some ⟨lb, off, none⟩) (n + 1) cap) := hpz.cell 0
    have yl := hpz.lt
    have HB2 := Lib.hid (hpz.set 0 (.slice (some ⟨lb, off', none⟩) n n))
    have HO2 : Hid (OnlyF (fun k => k = pb) w (wz.setCell ⟨pb, 0, none⟩ (.slice (some ⟨lb, off', none⟩) n n))) := Lib.hid (OnlyF.setCell (F := fun k => k = pb) (HO1.out.step hbz) (p := ⟨pb, 0, none⟩) rfl _)
    have HS2 : Hid (SlQ (wz.setCell ⟨pb, 0, none⟩ (.slice (some ⟨lb, off', none⟩) n n)) Q (.slice (some ⟨lb, off', none⟩) n n) (bv t)) :=
      (HS1.out.keep hbz.size fun k hk _ => hbz.block k hk).keep (by simp) fun k hk hqk => Below.heap_setCell _ _ _ _ (fun e => HQ.out (by have e2 : k = pb := e; subst e2; exact hqk))
    clear hz hbz hpz p0 p1 f0 f1 c0
    have HFIN : Hid (∀ (r : Int × Int) (wf : World), nextP (b :: t) s = r → Below (wz.setCell ⟨pb, 0, none⟩ (.slice (some ⟨lb, off', none⟩) n n)).heap.size (wz.setCell ⟨pb, 0, none⟩ (.slice (some ⟨lb, off', none⟩) n n)) wf → PlanNextPost w Q pb (b :: t) m s (.returned (.tuple #[.int .i64 r.1, .int .i64 r.2])) wf) := by
      intro r wf hr hbf
      subst hr
      refine (HPO.out _ _).2 ⟨rfl, ⟨_, HB2.out.below hbf, HS2.out.keep hbf.size fun k hk _ => hbf.block k hk⟩, HO2.out.step hbf⟩
    (go_wp2_with fail); refine (planSays_any b _ HBB.out).mono ?_
    rintro e w2 ⟨rfl, rfl⟩
    have HN2 : Hid (nextP (b :: t) s = if saysB b = 2 ∧ 0 ≤ s ∧ s ≤ 4 then (2, b / 4 % (s + 1)) else (saysB b, 0)) := Lib.hid rfl
    obtain ⟨S, hS⟩ : ∃ S, saysB b = S := ⟨_, rfl⟩
    have HSS := Lib.hid hS
    rw [hS] at HN2 ⊢
    clear hS HB2 HO2 HS2 HPO HB1 HO1 HS1 hsl
    by_cases h2 : S = 2
    · subst h2
      by_cases hs0 : s < 0
      · have HR : Hid (nextP (b :: t) s = (2, 0)) := by show _ = _; rw [HN2.out, if_neg (by omega)]
        go_wp2_with fail
        refine (planSays_any b _ HBB.out).mono ?_
        rintro e w2 ⟨rfl, rfl⟩
        rw [HSS.out]
        go_wp2_with fail
        go_ret2
        exact HFIN.out _ _ HR.out (Below.refl _ _)
      by_cases hs4 : 4 < s
      · have HR : Hid (nextP (b :: t) s = (2, 0)) := by show _ = _; rw [HN2.out, if_neg (by omega)]
        go_wp2_with fail
        refine (planSays_any b _ HBB.out).mono ?_
        rintro e w2 ⟨rfl, rfl⟩
        rw [HSS.out]
        go_wp2_with fail
        go_ret2
        exact HFIN.out _ _ HR.out (Below.refl _ _)
      have HR : Hid (nextP (b :: t) s = (2, b / 4 % (s + 1))) := by show _ = _; rw [HN2.out, if_pos ⟨rfl, by omega, by omega⟩]
      obtain ⟨hb0, hb1⟩ := HBB.out
      have hw0 : IntKind.i64.wrap b = b := wrap_in _ ⟨by omega, by omega⟩
      have htd : b.tdiv 4 = b / 4 := Int.tdiv_eq_ediv_of_nonneg hb0
      have hb4 : 0 ≤ b / 4 := by omega
      have hb49 : b / 4 ≤ 64 := by omega
      have hw1 : IntKind.i64.wrap (b / 4) = b / 4 := wrap_in _ ⟨by omega, by omega⟩
      have hws : IntKind.i64.wrap (s + 1) = s + 1 := wrap_in _ ⟨by omega, by omega⟩
      have hs1 : ¬ (s + 1) = 0 := by omega
      have hs2 : ((s + 1) == 0) = false := beq_eq_false_iff_ne.2 hs1
      have htm : (b / 4).tmod (s + 1) = b / 4 % (s + 1) := Int.tmod_eq_emod_of_nonneg hb4
      have hm1 := Int.emod_nonneg (b / 4) hs1
      have hm2 := Int.emod_lt_of_pos (b / 4) (show (0 : Int) < s + 1 by omega)
      have hw2 : IntKind.i64.wrap (b / 4 % (s + 1)) = b / 4 % (s + 1) := wrap_in _ ⟨by omega, by omega⟩
      obtain ⟨Z, hZ⟩ : ∃ Z, b / 4 % (s + 1) = Z := ⟨_, rfl⟩
      rw [hZ] at htm hw2 HR
      obtain ⟨Y, hY⟩ : ∃ Y, b / 4 = Y := ⟨_, rfl⟩
      rw [hY] at htd hw1 htm
      obtain ⟨X, hX⟩ : ∃ X, s + 1 = X := ⟨_, rfl⟩
      have hws2 : IntKind.i64.wrap (s + 1) = X := by rw [hws, hX]
      rw [hX] at hs1 hs2 htm
      clear hws hZ hY hX hm1 hm2 hb4 hb49 hb0 hb1
      go_wp2_with fail
      refine wp_region_b 7 (by kernel_rfl) (by kernel_rfl) ?_
      simp only [List.take_succ_cons, List.take_zero, List.drop_succ_cons, List.drop_zero]
      repeat (first
        | (refine SeqC.run (v := ?_) ?_ (fun wz hz => ?_) ?_; rotate_left; (· rfl); (· have hzc := hz.cell; have hzf := hz.frozen; go_simp; first | exact UponS.value hz | exact UponS.skip hz | (refine UponS.call ?_; fail)); (try simp only [Act.put, List.setIfInBounds_toArray, List.set_cons_zero, List.set_cons_succ]))
        | (refine SeqC.skip ?_ ?_; (· rfl); (try simp only [Act.put, List.setIfInBounds_toArray, List.set_cons_zero, List.set_cons_succ])))
      refine fun wf hf => ?_
      go_wp2_with fail
      go_ret2
      exact HFIN.out _ _ HR.out ((Below.refl _ _).drew.trans hf.below)
    · have h2b : (S != 2) = true := by simp [h2]
      have HR : Hid (nextP (b :: t) s = (S, 0)) := by show _ = _; rw [HN2.out, if_neg (by omega)]
      go_wp2_with fail
      refine (planSays_any b _ HBB.out).mono ?_
      rintro e w2 ⟨rfl, rfl⟩
      rw [HSS.out]
      go_wp2_with fail
      go_ret2
      exact HFIN.out _ _ HR.out (Below.refl _ _)

end Go.Proofs.Ytlkapaecaeldpaa
