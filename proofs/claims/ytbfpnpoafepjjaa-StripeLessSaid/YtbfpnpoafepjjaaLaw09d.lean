/-
  The walks of the laws over package stripe, fourth part.
-/
import Derived.Test.YtbfpnpoafepjjaaLaw09
import Derived.Test.YtbfpnpoafepjjaaRegT
set_option linter.unusedVariables false
set_option linter.unusedSimpArgs false
set_option maxRecDepth 16384
namespace Go.Proofs.Ytbfpnpoafepjjaa
open Go.RowKit

/-- the more are dead the less is left -/
theorem alvF_more (U : Nat) (xs : List Int) (y : Int) : ∀ f i, (alvF U (xs ++ [y]) f i).length ≤ (alvF U xs f i).length
  | 0, _ => Nat.le_refl _
  | f + 1, i => by
    have ih := alvF_more U xs y f (i + 1)
    rw [alvF, alvF]
    by_cases h : hasL xs ((i % U : Nat) : Int) = true
    · have h2 : hasL (xs ++ [y]) ((i % U : Nat) : Int) = true := by
        unfold hasL at *
        rw [decide_eq_true_eq] at *
        exact List.mem_append_left _ h
      rw [if_pos h, if_pos h2]
      exact ih
    · rw [if_neg h]
      split
      · simp only [List.length_cons]; omega
      · simp only [List.length_cons]; omega

theorem Geo.alv_more (g : Geo) (xs : List Int) (y k : Int) : (g.alv (xs ++ [y]) k).length ≤ (g.alv xs k).length := by
  unfold Geo.alv
  split
  · exact alvF_more _ _ _ _ _
  · exact Nat.le_refl _


/-- append to an empty literal: nothing that was there is touched -/
theorem run_append_new {P : Program} {w : World} (base : Nat) (t ty e : TypeId) (i : TypeInfo) (z : Value) (bytes : Nat) (ht : P.underlying t = some (.slice e)) (hi : P.info? e = some i) (hz : i.zero = some z)
    (hsize : i.size = 1) (hby : i.bytes = bytes) (hzs : z.cells.size = 1)
    (g : Nat) (hbg : base ≤ g) (hb : base ≤ w.heap.size) (hk : Blk w g e [])
    (B : Nat) (x : Value) (news : List Value) (hx : Sl w B x news) (h63 : news.length ≤ maxLen) (hbytes : news.length * bytes ≤ 140737488355328) :
    ∃ v' w', (Builtin.append_ #[t, t] ty #[.slice (some ⟨g, 0, none⟩) 0 0, x]).run P w = .ok v' w' ∧ w'.ownsRow base e 1 v' news.length news ∧ Since w w' := by
  have hown : w.ownsRow base e 1 (.slice (some ⟨g, 0, none⟩) 0 0) 0 [] := hk.own hbg (by simp)
  obtain ⟨a, cap, rfl, _, _, hnil, h3⟩ := hx
  by_cases h0 : news = []
  · subst h0
    refine ⟨_, w, ?_, hown, Since.refl w⟩
    cases a with
    | none =>
      obtain rfl := hnil rfl
      exact run_append_owned_none w base t ty e i 1 ht hi _ 0 [] hown
    | some ad =>
      have hf := run_firstCells_some (P := P) w i.size 0 ad 0 cap [] (by simp) (by simp)
      simp [Builtin.append_, run_underlying ht, sizeOf, typeInfo, hi, Builtin.lenOf, hf, storeCells]
  · rcases h3 with rfl | ⟨b, off, rfl, _, _, h6⟩
    · exact absurd rfl h0
    · have hpos : 0 < news.length := List.length_pos_iff.2 h0
      obtain ⟨v', w', hr, h2, h4⟩ := run_append_arg_grows (P := P) w t ty e i z 1 bytes ht hi hz hsize hby hzs (by decide) ⟨g, 0, none⟩ 0 0 [] (by simp) (by simp) ⟨b, off, none⟩ news.length cap news (by simp) (fun j u hu => by rw [addr_add]; exact h6 j u hu) (by omega) (by omega) (by rw [Nat.zero_add]; exact hbytes)
      refine ⟨v', w', hr, ?_, ⟨h4.os, h4.tape, h4.output, h4.size, fun k hk => h4.block k hk (by simp)⟩⟩
      have h5 := h2
      rw [Nat.zero_add, List.nil_append] at h5
      refine ⟨h5.1, ?_⟩
      rcases h5.2 with h7 | ⟨g', c', cur, h8, h9, h10⟩
      · exact .inl h7
      · exact .inr ⟨g', c', cur, h8, Nat.le_trans hb h9, h10⟩

theorem UponT.append {P : Program} {R : Value → World → Prop} {w w' : World} {o : Oper} {a : Act} (s x : Operand) (t : TypeId) (v xv v' : Value)
    (ho : o.op = .call { callee := .builtin .append, args := #[s, x], argTypes := #[t, t] }) (hs : a.eval s = v) (hx : a.eval x = xv)
    (hr : (Builtin.append_ #[t, t] o.type #[v, xv]).run P w = .ok v' w') (h : R v' w') : UponT P R ((execOp a.eval o).run P w) := by
  unfold execOp
  simp only [ho, resolve, invoke, builtin, Sem.run_bind, Sem.run_pure, Result.andThen_ok, List.map_toArray, List.map_cons, List.map_nil, hs, hx, hr]
  exact h

/-- what is known of the makers of append(append([]int{}, dead...), y) and of Left of it -/
def LessJ (base : Nat) (t : TypeId) (xs : List Int) (y L : Int) (i : Nat) (v : Value) (w : World) : Prop :=
  match i with
  | 1 => ∃ g, v = .slice (some ⟨g, 0, none⟩) 0 0 ∧ base ≤ g ∧ Blk w g t []
  | 3 => w.ownsRow base t 1 v xs.length (iv xs)
  | 6 => Sl w base v (iv [y])
  | 7 => w.ownsRow base t 1 v (xs.length + 1) (iv (xs ++ [y]))
  | 10 => v = .int .i64 L
  | _ => True

theorem LessJ.keep {base : Nat} {t : TypeId} {xs : List Int} {y L : Int} (i : Nat) (v : Value) (w w' : World) (h : LessJ base t xs y L i v w) (hs : Since w w') : LessJ base t xs y L i v w' := by
  unfold LessJ at *
  split at h
  · obtain ⟨g, h1, h2, h3⟩ := h; exact ⟨g, h1, h2, h3.below hs⟩
  · exact own_below h hs
  · exact h.below hs
  · exact own_below h hs
  · exact h
  · trivial

set_option maxHeartbeats 4000000 in
theorem stripeLessWalk (g : Geo) (a0 : Option Addr) (len0 cap0 : Nat) (z0 : List Int) (x y : Int) (w : World) (hg : g.Wf) (w0 : IsRow .i64 w a0 len0 cap0 z0) (hi : ∀ m ∈ [x, y], IsInt m) :
    Calls Try.prog 8 #[g.v, .slice a0 len0 cap0, .agg #[.int .i64 x, .int .i64 y]] w fun e w' => e = .returned (.bool true) ∧ Below w.heap.size w w' := by
  have HW := Lib.hid hg
  have HI := Lib.hid (hi x (by simp))
  have HJ := Lib.hid (hi y (by simp))
  clear hg hi
  obtain ⟨c, l, b, p, s⟩ := g
  have HG := Lib.hid ((Blk.new w 23 [.int .i64 c, .int .i64 l, .int .i64 b, .int .i64 p, .int .i64 s]).alloc (.cells #[.int .i64 x, .int .i64 y] 47))
  have HX := Lib.hid (Blk.new1 w (.cells #[.int .i64 c, .int .i64 l, .int .i64 b, .int .i64 p, .int .i64 s] 23) 47 [.int .i64 x, .int .i64 y])
  by_cases hl : 100 < len0
  · have hl2 := w0.len_le
    clear w0
    unfold Geo.v
    go_enter Try.func8, Try.ntmps8
    (go_wp2_with fail); refine (awake09_any _).mono ?_
    rintro e w1 ⟨rfl, hb⟩
    have HB1 := Lib.hid ((((Below.refl w.heap.size w).alloc (Nat.le_refl _) (.cells #[.int .i64 c, .int .i64 l, .int .i64 b, .int .i64 p, .int .i64 s] 23)).alloc (by simp) (.cells #[.int .i64 x, .int .i64 y] 47)).trans (hb.mono (by simp; omega)))
    clear hb
    go_wp2
    go_ret
    exact ⟨rfl, HB1.out⟩
  obtain ⟨hs, hlen, hwf⟩ := w0.sl (by omega)
  generalize z0.take len0 = xs at *
  subst hlen
  clear w0 hwf
  have HS : Hid (Sl w 0 (.slice a0 xs.length cap0) (iv xs)) := hs
  clear hs
  unfold Geo.v
  go_enter Try.func8, Try.ntmps8
  (go_wp2_with fail); refine (awake09_any _).mono ?_
  rintro e w1 ⟨rfl, hb⟩
  have hp := HX.out.below hb
  have hk := HG.out.below hb; have k0 : w1.cell? ⟨w.heap.size, 0, none⟩ = some (.int .i64 c) := hk.cell 0; have k1 : w1.cell? ⟨w.heap.size, 1, none⟩ = some (.int .i64 l) := hk.cell 1; have k2 : w1.cell? ⟨w.heap.size, 2, none⟩ = some (.int .i64 b) := hk.cell 2; have k3 : w1.cell? ⟨w.heap.size, 3, none⟩ = some (.int .i64 p) := hk.cell 3; have k4 : w1.cell? ⟨w.heap.size, 4, none⟩ = some (.int .i64 s) := hk.cell 4; have hltk := hk.lt
  have x0 : w1.cell? ⟨w.heap.size + 1, 0, none⟩ = some (.int .i64 x) := hp.cell 0
  have x1 : w1.cell? ⟨w.heap.size + 1, 1, none⟩ = some (.int .i64 y) := hp.cell 1
  have HG1 := Lib.hid hk
  have HX1 := Lib.hid hp
  have HB1 := Lib.hid ((((Below.refl w.heap.size w).alloc (Nat.le_refl _) (.cells #[.int .i64 c, .int .i64 l, .int .i64 b, .int .i64 p, .int .i64 s] 23)).alloc (by simp) (.cells #[.int .i64 x, .int .i64 y] 47)).trans (hb.mono (by simp; omega)))
  clear hb hk hp
  by_cases hx0 : x < 0
  · go_wp2_with fail
    go_ret
    exact ⟨rfl, HB1.out⟩
  by_cases hx9 : 100000 < x
  · go_wp2_with fail
    go_ret
    exact ⟨rfl, HB1.out⟩
  obtain ⟨A, hA⟩ : ∃ A, (Geo.alv ⟨c, l, b, p, s⟩ xs x).length = A := ⟨_, rfl⟩
  obtain ⟨B, hB⟩ : ∃ A, (Geo.alv ⟨c, l, b, p, s⟩ (xs ++ [y]) x).length = A := ⟨_, rfl⟩
  have hAB : B ≤ A := by rw [← hA, ← hB]; exact Geo.alv_more _ _ _ _
  have HA := Lib.hid hA
  have HBB := Lib.hid hB
  clear hA hB
  (go_wp2_with fail); refine (stripeLeft_any ⟨c, l, b, p, s⟩ _ xs x _ HW.out (HS.out.below HB1.out) HI.out).mono ?_
  rintro e w2 ⟨rfl, hb⟩
  rw [HA.out]
  have hp := HX1.out.below hb
  have hk := HG1.out.below hb; have k0 : w2.cell? ⟨w.heap.size, 0, none⟩ = some (.int .i64 c) := hk.cell 0; have k1 : w2.cell? ⟨w.heap.size, 1, none⟩ = some (.int .i64 l) := hk.cell 1; have k2 : w2.cell? ⟨w.heap.size, 2, none⟩ = some (.int .i64 b) := hk.cell 2; have k3 : w2.cell? ⟨w.heap.size, 3, none⟩ = some (.int .i64 p) := hk.cell 3; have k4 : w2.cell? ⟨w.heap.size, 4, none⟩ = some (.int .i64 s) := hk.cell 4; have hltk := hk.lt
  have x0' : w2.cell? ⟨w.heap.size + 1, 0, none⟩ = some (.int .i64 x) := hp.cell 0
  have x1' : w2.cell? ⟨w.heap.size + 1, 1, none⟩ = some (.int .i64 y) := hp.cell 1
  have HG2 := Lib.hid hk
  have HX2 := Lib.hid hp
  have HB2 := Lib.hid (HB1.out.trans (hb.mono HB1.out.size))
  clear hb hk hp
  have HMS := HS.out
  obtain ⟨i0, hif, hz0, hz1, hz2⟩ := info_parts info_int
  go_wp2_with fail
  refine wp_region_t 11 [(1, []), (3, [1]), (6, []), (7, [3, 6]), (10, [7])] 7 (LessJ w2.drew.heap.size 3 xs y B) [?_, undef, ?_, undef, ?_, ?_, undef, undef, ?_, ?_, undef] (by kernel_rfl) (by kernel_rfl) (by kernel_rfl) LessJ.keep ?_
  rotate_left 6
  simp only [List.take_succ_cons, List.take_zero, List.drop_succ_cons, List.drop_zero]
  refine SeqT.run (v := ?_) rfl rfl (fun wz hz => ?_) ?_ ?_; rotate_left; (have hzc := hz.cell; have hzf := hz.frozen; go_simp; first | exact UponS.value (Since.refl _) | exact UponS.skip (Since.refl _)); (exact rfl); (try simp only [Act.put, List.setIfInBounds_toArray, List.set_cons_zero, List.set_cons_succ])
  refine SeqT.tie rfl (by decide) rfl (fun wz hz hd => ?_) (fun v1 => ?_)
  · go_simp
    exact UponT.value ⟨⟨wz.heap.size, rfl, hz.below.size, Blk.new wz 3 []⟩, (Below.refl _ _).alloc (Nat.le_refl _) _⟩
  (try simp only [Act.put, List.setIfInBounds_toArray, List.set_cons_zero, List.set_cons_succ])
  refine SeqT.run (v := ?_) rfl rfl (fun wz hz => ?_) ?_ ?_; rotate_left; (have hzc := hz.cell; have hzf := hz.frozen; go_simp; first | exact UponS.value (Since.refl _) | exact UponS.skip (Since.refl _)); (exact rfl); (try simp only [Act.put, List.setIfInBounds_toArray, List.set_cons_zero, List.set_cons_succ])
  refine SeqT.tie rfl (by decide) rfl (fun wz hz hd => ?_) (fun v3 => ?_)
  · obtain ⟨g, rfl, hg, hk⟩ := hd 1 (by decide) v1 rfl
    obtain ⟨v', w', hr, ho, hs⟩ := run_append_new (P := Try.prog) w2.drew.heap.size 24 24 3 _ (.int .i64 0) 8 Try.underlying24 hif hz0 hz1 hz2 rfl g hg hz.below.size hk 0 (.slice a0 xs.length cap0) (iv xs) (HMS.below (HB2.out.drew.trans (hz.below.mono HB2.out.size))) (by rw [iv_length]; unfold maxLen; omega) (by rw [iv_length]; omega)
    rw [iv_length] at ho
    exact UponT.append _ _ _ _ _ _ rfl rfl rfl hr ⟨ho, hs⟩
  (try simp only [Act.put, List.setIfInBounds_toArray, List.set_cons_zero, List.set_cons_succ])
  refine SeqT.run (v := ?_) rfl rfl (fun wz hz => ?_) ?_ ?_; rotate_left; (have hzc := hz.cell; have hzf := hz.frozen; go_simp; first | exact UponS.value (Since.refl _) | exact UponS.skip (Since.refl _)); (exact rfl); (try simp only [Act.put, List.setIfInBounds_toArray, List.set_cons_zero, List.set_cons_succ])
  refine SeqT.run (v := ?_) rfl rfl (fun wz hz => ?_) ?_ ?_; rotate_left; (have hzc := hz.cell; have hzf := hz.frozen; go_simp; first | exact UponS.value (Since.refl _) | exact UponS.skip (Since.refl _)); (exact rfl); (try simp only [Act.put, List.setIfInBounds_toArray, List.set_cons_zero, List.set_cons_succ])
  refine SeqT.tie rfl (by decide) rfl (fun wz hz hd => ?_) (fun v6 => ?_)
  · go_simp
    exact UponT.value ⟨(Blk.new wz 3 (iv [y])).sl hz.below.size (by simp [iv]), (Below.refl _ _).alloc (Nat.le_refl _) _⟩
  (try simp only [Act.put, List.setIfInBounds_toArray, List.set_cons_zero, List.set_cons_succ])
  refine SeqT.write rfl rfl rfl (fun wz hz hd => ?_) (fun v7 => ?_)
  · have h3 : wz.ownsRow w2.drew.heap.size 3 1 v3 xs.length (iv xs) := hd 3 (by decide) v3 rfl
    have h6 : Sl wz w2.drew.heap.size v6 (iv [y]) := hd 6 (by decide) v6 rfl
    obtain ⟨v', w', hr, ho, hs, _⟩ := run_append_sl (P := Try.prog) w2.drew.heap.size 24 24 3 _ (.int .i64 0) 8 Try.underlying24 hif hz0 hz1 hz2 rfl v3 xs.length (iv xs) h3 w2.drew.heap.size v6 (iv [y]) h6 (oneCell_one _ _) (by rw [iv_length]; unfold maxLen; simp; omega) (by rw [iv_length]; simp; omega) hz.below.size
    refine UponT.append _ _ _ _ _ _ rfl rfl rfl hr ⟨?_, below_grown hz.below h3 hs hz.below.size (Nat.le_refl _)⟩
    have : iv (xs ++ [y]) = iv xs ++ iv [y] := by simp [iv]
    show w'.ownsRow _ _ _ _ _ _
    rw [this]
    exact ho
  (try simp only [Act.put, List.setIfInBounds_toArray, List.set_cons_zero, List.set_cons_succ])
  refine SeqT.run (v := ?_) rfl rfl (fun wz hz => ?_) ?_ ?_; rotate_left; (have hzc := hz.cell; have hzf := hz.frozen; go_simp; first | exact UponS.value (Since.refl _) | exact UponS.skip (Since.refl _)); (exact rfl); (try simp only [Act.put, List.setIfInBounds_toArray, List.set_cons_zero, List.set_cons_succ])
  refine SeqT.run (v := ?_) rfl rfl (fun wz hz => ?_) ?_ ?_; rotate_left; (have hzc := hz.cell; have hzf := hz.frozen; go_simp; first | exact UponS.value (Since.refl _) | exact UponS.skip (Since.refl _)); (exact rfl); (try simp only [Act.put, List.setIfInBounds_toArray, List.set_cons_zero, List.set_cons_succ])
  refine SeqT.tie rfl (by decide) rfl (fun wz hz hd => ?_) (fun v10 => ?_)
  · have h7 : wz.ownsRow w2.drew.heap.size 3 1 v7 (xs.length + 1) (iv (xs ++ [y])) := hd 7 (by decide) v7 rfl
    go_simp
    refine UponT.call ?_
    go_at_call 32
    refine (stripeLeft_any ⟨c, l, b, p, s⟩ _ (xs ++ [y]) x _ HW.out (Sl.mono (Sl.of_own h7 (by simp [iv]; omega)) (Nat.zero_le _)) HI.out).mono ?_
    rintro e wy ⟨rfl, hb⟩
    rw [HBB.out]
    exact ⟨_, rfl, rfl, hb⟩
  (try simp only [Act.put, List.setIfInBounds_toArray, List.set_cons_zero, List.set_cons_succ])
  intro wz hz hi
  obtain rfl : v10 = .int .i64 B := hi 10 v10 rfl
  have hbz := hz.below
  have hp := HX2.out.drew.below hbz
  have hk := HG2.out.drew.below hbz
  have k0 : wz.cell? ⟨w.heap.size, 0, none⟩ = some (.int .i64 c) := hk.cell 0; have k1 : wz.cell? ⟨w.heap.size, 1, none⟩ = some (.int .i64 l) := hk.cell 1; have k2 : wz.cell? ⟨w.heap.size, 2, none⟩ = some (.int .i64 b) := hk.cell 2; have k3 : wz.cell? ⟨w.heap.size, 3, none⟩ = some (.int .i64 p) := hk.cell 3; have k4 : wz.cell? ⟨w.heap.size, 4, none⟩ = some (.int .i64 s) := hk.cell 4
  have x0z : wz.cell? ⟨w.heap.size + 1, 0, none⟩ = some (.int .i64 x) := hp.cell 0
  have x1z : wz.cell? ⟨w.heap.size + 1, 1, none⟩ = some (.int .i64 y) := hp.cell 1
  have HG3 := Lib.hid hk
  have HX3 := Lib.hid hp
  have HB3 := Lib.hid (HB2.out.drew.trans (hbz.mono HB2.out.size))
  clear hk hp hbz hz hi HMS
  have hBA : ¬ A < B := by omega
  (go_wp2_with fail); refine (stripeNext_any ⟨c, l, b, p, s⟩ _ xs x _ HW.out (HS.out.below HB3.out) HI.out).mono ?_
  rintro e w4 ⟨rfl, hb⟩
  have hp := HX3.out.below hb
  have hk := HG3.out.below hb; have k0 : w4.cell? ⟨w.heap.size, 0, none⟩ = some (.int .i64 c) := hk.cell 0; have k1 : w4.cell? ⟨w.heap.size, 1, none⟩ = some (.int .i64 l) := hk.cell 1; have k2 : w4.cell? ⟨w.heap.size, 2, none⟩ = some (.int .i64 b) := hk.cell 2; have k3 : w4.cell? ⟨w.heap.size, 3, none⟩ = some (.int .i64 p) := hk.cell 3; have k4 : w4.cell? ⟨w.heap.size, 4, none⟩ = some (.int .i64 s) := hk.cell 4; have hltk := hk.lt
  have x04 : w4.cell? ⟨w.heap.size + 1, 0, none⟩ = some (.int .i64 x) := hp.cell 0
  have x14 : w4.cell? ⟨w.heap.size + 1, 1, none⟩ = some (.int .i64 y) := hp.cell 1
  have HG4 := Lib.hid hk
  have HX4 := Lib.hid hp
  have HB4 := Lib.hid (HB3.out.trans (hb.mono HB3.out.size))
  clear hb hk hp
  rcases Geo.nxt_cases ⟨c, l, b, p, s⟩ xs x (by omega) with ⟨h1, h2⟩ | ⟨j, h1, h2, h3, h4⟩
  · have hA0 : A = 0 := by rw [← HA.out, h1]; rfl
    subst hA0
    rw [h2]
    clear h1 h2
    go_wp2_with fail
    go_ret
    exact ⟨ret_bool (by simp), HB4.out⟩
  · rw [h3]
    obtain ⟨A', hA'⟩ : ∃ A', (Geo.alv ⟨c, l, b, p, s⟩ xs ((j : Int) + 1)).length = A' := ⟨_, rfl⟩
    have hAA : A = A' + 1 := by rw [← HA.out, h4, List.length_cons, hA']
    have HA2 := Lib.hid hA'
    have hL := Geo.alv_len ⟨c, l, b, p, s⟩ xs x
    rw [HA.out] at hL
    have hjw : IntKind.i64.wrap ((j : Int) + 1) = (j : Int) + 1 := wrap_in _ ⟨by omega, by omega⟩
    have hAw : IntKind.i64.wrap ((A : Int) - 1) = (A' : Int) := by rw [hAA]; rw [wrap_in _ ⟨by omega, by omega⟩]; omega
    clear h3 h4 hA' hAA hL
    (go_wp2_with fail); refine (stripeLeft_any ⟨c, l, b, p, s⟩ _ xs (j + 1) _ HW.out (HS.out.below HB4.out) ⟨by omega, by omega⟩).mono ?_
    rintro e w5 ⟨rfl, hb⟩
    rw [HA2.out]
    have HB5 := Lib.hid (HB4.out.trans (hb.mono HB4.out.size))
    clear hb
    go_wp2_with fail
    go_ret
    exact ⟨ret_bool (by simp), HB5.out⟩

end Go.Proofs.Ytbfpnpoafepjjaa
