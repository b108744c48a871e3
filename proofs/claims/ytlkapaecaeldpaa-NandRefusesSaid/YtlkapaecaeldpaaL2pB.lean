/-
  Package l2p: grown.
-/
import Derived.Test.YtlkapaecaeldpaaL2pA
import Derived.Test.YtlkapaecaeldpaaBits3
set_option linter.unusedVariables false
set_option linter.unusedSimpArgs false
set_option maxRecDepth 16384
namespace Go.Proofs.Ytlkapaecaeldpaa
open Go.RowKit

/-- one more, out of a literal -/
theorem run_append_lit {P : Program} {w : World} (base : Nat) (t ty e : TypeId) (i : TypeInfo) (z : Value) (size bytes : Nat) (ht : P.underlying t = some (.slice e)) (hi : P.info? e = some i) (hz : i.zero = some z)
    (hsize : i.size = size) (hby : i.bytes = bytes) (hzs : z.cells.size = size) (hsz : 0 < size)
    (v : Value) (n : Nat) (xs : List Value) (hown : w.ownsRow base e size v n xs)
    (g : Nat) (news : List Value) (hk : Blk w g e news) (hl : news.length = size) (h1 : ∀ u ∈ news, u.oneCell' = true)
    (h63 : n + 1 ≤ maxLen) (hbytes : (n + 1) * bytes ≤ 140737488355328) (hbase : base ≤ w.heap.size) :
    ∃ v' w', (Builtin.append_ #[t, t] ty #[v, .slice (some ⟨g, 0, none⟩) 1 1]).run P w = .ok v' w' ∧ w'.ownsRow base e size v' (n + 1) (xs ++ news) ∧ w.grownBy w' v.ownBlock ∧ (v'.ownBlock = v.ownBlock ∨ v'.ownBlock = some w.heap.size) := by
  obtain ⟨v', w', hr, h2, h4, _, h5⟩ := run_append_own_at (P := P) w base t ty e i z size bytes ht hi hz hsize hby hzs hsz v n xs hown ⟨g, 0, none⟩ 1 1 news (by omega) (fun j u hu => by rw [addr_add, Nat.zero_add, hk.cell]; exact hu) h1 h63 hbytes hbase
  exact ⟨v', w', hr, h2, h4, h5⟩

/-- what is known within one step of grown -/
def GrowJ (base sz : Nat) (te : TypeId) (vq : Value) (m : Nat) (xs one : List Value) (sz0 : Nat) (i : Nat) (v : Value) (lo hi : Nat) (w : World) : Prop :=
  match i with
  | 10 => v = vq ∧ w.ownsRow base te sz v m xs
  | 12 => ∃ g, v = .slice (some ⟨g, 0, none⟩) 1 1 ∧ Blk w g te one
  | 13 => w.ownsRow base te sz v (m + 1) (xs ++ one) ∧ (v.ownBlock = vq.ownBlock ∨ ∃ b, v.ownBlock = some b ∧ sz0 ≤ b)
  | _ => True

theorem GrowJ.keep {base sz : Nat} {te : TypeId} {vq : Value} {m : Nat} {xs one : List Value} {sz0 : Nat} (i : Nat) (v : Value) (lo hi : Nat) (w w' : World) (h : GrowJ base sz te vq m xs one sz0 i v lo hi w) (hs : Since w w') : GrowJ base sz te vq m xs one sz0 i v lo hi w' := by
  unfold GrowJ at *
  split at h
  · exact ⟨h.1, own_below h.2 hs⟩
  · obtain ⟨g, h1, h2⟩ := h; exact ⟨g, h1, h2.below hs⟩
  · exact ⟨own_below h.1 hs, h.2⟩
  · trivial

theorem grownBy_refl (w : World) (row : Option Nat) : w.grownBy w row := ⟨rfl, rfl, rfl, Nat.le_refl _, fun _ _ _ => rfl⟩
theorem grownBy_trans {a b c : World} {row : Option Nat} (h : a.grownBy b row) (k : b.grownBy c row) : a.grownBy c row :=
  ⟨k.os.trans h.os, k.tape.trans h.tape, k.output.trans h.output, Nat.le_trans h.size k.size, fun i hi hc => (k.block i (Nat.lt_of_lt_of_le hi h.size) hc).trans (h.block i hi hc)⟩

/-- the four shards' slices while they grow -/
structure Grows (w : World) (k : Nat) (tk te : TypeId) (sz base i : Nat) (one : List Value) (v : Nat → Value) : Prop where
  blk : Blk w k tk [v 0, v 1, v 2, v 3]
  own : ∀ q, q < 4 → w.ownsRow base te sz (v q) (cnt4 i q) (List.replicate (cnt4 i q) one).flatten
  nil : ∀ q, q < 4 → cnt4 i q = 0 → v q = .slice none 0 0
  apart : ∀ q r, q < 4 → r < 4 → q ≠ r → (v q).ownBlock = none ∨ (v q).ownBlock ≠ (v r).ownBlock

theorem grownBy_set (w : World) (k q : Nat) (u : Value) : w.grownBy (w.setCell ⟨k, q, none⟩ u) (some k) :=
  ⟨rfl, rfl, rfl, by simp, fun i hi hc => Below.heap_setCell _ _ _ _ (fun e => hc (by rw [e]))⟩

theorem Grows.step {wr wz : World} {k : Nat} {tk te : TypeId} {sz base i q : Nat} {one : List Value} {v : Nat → Value} {u : Value} (hG : Grows wr k tk te sz base i one v) (hq : i % 4 = q) (hb : k < base) (hz : wr.grownBy wz (v q).ownBlock)
    (h1 : wz.ownsRow base te sz u (cnt4 i q + 1) ((List.replicate (cnt4 i q) one).flatten ++ one)) (h2 : u.ownBlock = (v q).ownBlock ∨ ∃ b, u.ownBlock = some b ∧ wr.heap.size ≤ b) :
    Grows (wz.setCell ⟨k, q, none⟩ u) k tk te sz base (i + 1) one (fun r => if r = q then u else v r) := by
  have hq4 : q < 4 := by omega
  have hk : (v q).ownBlock ≠ some k := own_ne (hG.own q hq4) hb
  have hu : u.ownBlock ≠ some k := own_ne h1 hb
  refine ⟨?_, fun r hr => ?_, fun r hr h0 => ?_, fun r r' hr hr' hne => ?_⟩
  · have := (hG.blk.grown hz hk).set q u
    rcases (show q = 0 ∨ q = 1 ∨ q = 2 ∨ q = 3 by omega) with rfl | rfl | rfl | rfl <;> simpa using this
  · rw [cnt4_step hr, hq]
    by_cases he : r = q
    · subst he
      rw [if_pos rfl, if_pos rfl, List.replicate_succ', List.flatten_append, List.flatten_singleton]
      exact h1.kept (grownBy_set _ _ _ _) (.inr hu)
    · rw [if_neg he, if_neg he]
      have h3 := hG.own r hr
      exact (h3.kept hz (hG.apart r q hr hq4 he)).kept (grownBy_set _ _ _ _) (.inr (own_ne h3 hb))
  · rw [cnt4_step hr, hq] at h0
    by_cases he : r = q
    · rw [if_pos he] at h0; omega
    · rw [if_neg he] at h0 ⊢
      exact hG.nil r hr h0
  · have key : ∀ r, r < 4 → r ≠ q → (u.ownBlock = none ∨ u.ownBlock ≠ (v r).ownBlock) ∧ ((v r).ownBlock = none ∨ (v r).ownBlock ≠ u.ownBlock) := fun r hr he => by
      rcases h2 with h2 | ⟨b, h2, h4⟩
      · rw [h2]
        exact ⟨hG.apart q r hq4 hr (fun e => he e.symm), hG.apart r q hr hq4 he⟩
      · have : (v r).ownBlock ≠ some b := fun e => by have := ((hG.own r hr).lt b e).2; omega
        rw [h2]
        exact ⟨.inr (fun e => this e.symm), .inr this⟩
    by_cases he : r = q
    · rw [if_pos he, if_neg (fun e => hne (he.trans e.symm))]
      exact (key r' hr' (fun e => hne (he.trans e.symm))).1
    · rw [if_neg he]
      by_cases he' : r' = q
      · rw [if_pos he']
        exact (key r hr he).2
      · rw [if_neg he']
        exact hG.apart r r' hr hr' hne

theorem info_entry : (Try.prog.info? 32).map (fun i => (i.zero, i.size, i.bytes)) = some (some (.agg #[.int .i64 0, .int .i64 0, .int .i64 0]), 3, 24) := by kernel_rfl
theorem oneCell_three (a b c : Int) : ∀ u ∈ [Value.int .i64 a, Value.int .i64 b, Value.int .i64 c], u.oneCell' = true := by
  intro u hu
  simp only [List.mem_cons, List.not_mem_nil, or_false] at hu
  rcases hu with rfl | rfl | rfl <;> rfl

set_option maxHeartbeats 1000000 in
theorem grownInt_any (n : Nat) (one : Int) (w : World) (hn : n ≤ 100000) :
    Calls Try.prog 84 #[.int .i64 n, .int .i64 one] w fun e w' => Po (fun e w' => ∃ v, e = .returned (.pointer (some ⟨w.heap.size, 0, none⟩)) ∧ Grows w' w.heap.size 176 3 1 (w.heap.size + 1) n [.int .i64 one] v ∧ Below w.heap.size w w') e w' := by
  go_enter Try.func84, Try.ntmps84
  go_wp2_with fail
  go_loopw [10] (fun t wr => ∃ (i : Nat) (v : Nat → Value), i ≤ n ∧ t = .int .i64 i ∧ Hid (Grows wr w.heap.size 176 3 1 (w.heap.size + 1) i [.int .i64 one] v) ∧ Hid (Below w.heap.size w wr)) (fun t _ => ((n : Int) - intOf t).toNat)
  case atStart => 
    refine ⟨0, fun _ => .slice none 0 0, Nat.zero_le _, rfl, ?_, (Below.refl w.heap.size w).alloc (Nat.le_refl _) _⟩
    refine ⟨Blk.new w _ [_, _, _, _], fun q hq => ?_, fun _ _ _ => rfl, fun _ _ _ _ _ => .inl rfl⟩
    rw [cnt4_zero q hq]
    exact World.ownsRow_nil _ _ _ _
  case round =>
    obtain ⟨i, v, hi, rfl, HG, HB⟩ := hrel
    by_cases hlt : i < n
    · obtain ⟨q, hq⟩ : ∃ q, i % 4 = q := ⟨_, rfl⟩
      have hq4 : q < 4 := by omega
      have htm : (i : Int).tmod 4 = (q : Int) := by rw [Int.tmod_eq_emod_of_nonneg (by omega)]; omega
      have hw1 : IntKind.i64.wrap (q : Int) = q := wrap_in _ ⟨by omega, by omega⟩
      have hq0 : (0 : Int) ≤ q := by omega
      have hq5 : (q : Int) < 4 := by omega
      obtain ⟨i0, hif, hz0, hz1, hz2⟩ := info_parts info_int
      obtain ⟨m, hm⟩ : ∃ m, cnt4 i q = m := ⟨_, rfl⟩
      have hmi : m ≤ i := by rw [← hm]; exact cnt4_le i q hq4
      go_wp2_with fail
      have hcq : wr.cell? ⟨w.heap.size, q, none⟩ = some (v q) := by
        rw [HG.out.blk.cell]
        rcases (show q = 0 ∨ q = 1 ∨ q = 2 ∨ q = 3 by omega) with e | e | e | e <;> rw [e] <;> rfl
      have how := HG.out.own q hq4
      rw [hm] at how
      obtain ⟨XS, hXS⟩ : ∃ XS, (List.replicate m [Value.int .i64 one]).flatten = XS := ⟨_, rfl⟩
      rw [hXS] at how
      have hne : (v q).ownBlock ≠ some w.heap.size := own_ne how (Nat.lt_succ_self _)
      refine wp_region_g 18 [(10, []), (12, []), (13, [10, 12])] 13 (fun b wz => wr.drew.grownBy wz (v q).ownBlock ∧ (b = false → wz.ownsRow (w.heap.size + 1) 3 1 (v q) m XS)) (GrowJ (w.heap.size + 1) 1 3 (v q) m XS [.int .i64 one] wr.heap.size) [?_, ?_, ?_, ?_, ?_, ?_, ?_, ?_, ?_, ?_, undef, ?_, undef, undef, ?_, ?_, ?_, ?_] (by kernel_rfl) (by kernel_rfl) (by kernel_rfl) ⟨grownBy_refl _ _, fun _ => how⟩ (fun b x y h1 h2 => ⟨grownBy_trans h1.1 (grown_of_below h2 _), fun e => own_below (h1.2 e) h2⟩) GrowJ.keep ?_
      rotate_left 15
      simp only [List.take_succ_cons, List.take_zero, List.drop_succ_cons, List.drop_zero]
      refine SeqT.run (v := ?_) rfl rfl (fun _ wz hz => ?_) ?_ ?_; rotate_left; (go_simp; first | exact UponS.value (Since.refl _) | exact UponS.skip (Since.refl _)); (exact rfl); (try simp only [Act.put, List.setIfInBounds_toArray, List.set_cons_zero, List.set_cons_succ])
      refine SeqT.run (v := ?_) rfl rfl (fun _ wz hz => ?_) ?_ ?_; rotate_left; (go_simp; first | exact UponS.value (Since.refl _) | exact UponS.skip (Since.refl _)); (exact rfl); (try simp only [Act.put, List.setIfInBounds_toArray, List.set_cons_zero, List.set_cons_succ])
      refine SeqT.run (v := ?_) rfl rfl (fun _ wz hz => ?_) ?_ ?_; rotate_left; (go_simp; first | exact UponS.value (Since.refl _) | exact UponS.skip (Since.refl _)); (exact rfl); (try simp only [Act.put, List.setIfInBounds_toArray, List.set_cons_zero, List.set_cons_succ])
      refine SeqT.run (v := ?_) rfl rfl (fun _ wz hz => ?_) ?_ ?_; rotate_left; (go_simp; first | exact UponS.value (Since.refl _) | exact UponS.skip (Since.refl _)); (exact rfl); (try simp only [Act.put, List.setIfInBounds_toArray, List.set_cons_zero, List.set_cons_succ])
      refine SeqT.run (v := ?_) rfl rfl (fun _ wz hz => ?_) ?_ ?_; rotate_left; (go_simp; first | exact UponS.value (Since.refl _) | exact UponS.skip (Since.refl _)); (exact rfl); (try simp only [Act.put, List.setIfInBounds_toArray, List.set_cons_zero, List.set_cons_succ])
      refine SeqT.run (v := ?_) rfl rfl (fun _ wz hz => ?_) ?_ ?_; rotate_left; (go_simp; first | exact UponS.value (Since.refl _) | exact UponS.skip (Since.refl _)); (exact rfl); (try simp only [Act.put, List.setIfInBounds_toArray, List.set_cons_zero, List.set_cons_succ])
      refine SeqT.run (v := ?_) rfl rfl (fun _ wz hz => ?_) ?_ ?_; rotate_left; (go_simp; first | exact UponS.value (Since.refl _) | exact UponS.skip (Since.refl _)); (exact rfl); (try simp only [Act.put, List.setIfInBounds_toArray, List.set_cons_zero, List.set_cons_succ])
      refine SeqT.run (v := ?_) rfl rfl (fun _ wz hz => ?_) ?_ ?_; rotate_left; (go_simp; first | exact UponS.value (Since.refl _) | exact UponS.skip (Since.refl _)); (exact rfl); (try simp only [Act.put, List.setIfInBounds_toArray, List.set_cons_zero, List.set_cons_succ])
      refine SeqT.run (v := ?_) rfl rfl (fun _ wz hz => ?_) ?_ ?_; rotate_left; (go_simp; first | exact UponS.value (Since.refl _) | exact UponS.skip (Since.refl _)); (exact rfl); (try simp only [Act.put, List.setIfInBounds_toArray, List.set_cons_zero, List.set_cons_succ])
      refine SeqT.run (v := ?_) rfl rfl (fun _ wz hz => ?_) ?_ ?_; rotate_left; (go_simp; first | exact UponS.value (Since.refl _) | exact UponS.skip (Since.refl _)); (exact rfl); (try simp only [Act.put, List.setIfInBounds_toArray, List.set_cons_zero, List.set_cons_succ])
      refine SeqT.tie rfl (by decide) rfl (fun wz hz hd => ?_) (fun v10 _ _ => ?_)
      · have hcz : wz.cell? ⟨w.heap.size, q, none⟩ = some (v q) := hz.1.cell hcq (fun e => hne e.symm)
        go_simp
        exact UponT.value ⟨⟨rfl, hz.2 rfl⟩, Since.refl _⟩
      (try simp only [Act.put, List.setIfInBounds_toArray, List.set_cons_zero, List.set_cons_succ])
      refine SeqT.run (v := ?_) rfl rfl (fun _ wz hz => ?_) ?_ ?_; rotate_left; (go_simp; first | exact UponS.value (Since.refl _) | exact UponS.skip (Since.refl _)); (exact rfl); (try simp only [Act.put, List.setIfInBounds_toArray, List.set_cons_zero, List.set_cons_succ])
      refine SeqT.tie rfl (by decide) rfl (fun wz hz hd => ?_) (fun v12 _ _ => ?_)
      · go_simp
        exact UponT.value ⟨⟨wz.heap.size, rfl, Blk.new wz 3 [.int .i64 one]⟩, (Below.refl _ _).alloc (Nat.le_refl _) _⟩
      (try simp only [Act.put, List.setIfInBounds_toArray, List.set_cons_zero, List.set_cons_succ])
      refine SeqT.write rfl rfl rfl (fun wz hz hd => ?_) (fun v13 _ _ => ?_)
      · obtain ⟨rfl, ho⟩ := hd.all 10 (by decide) v10 _ _ rfl
        obtain ⟨g, rfl, hk⟩ := hd.all 12 (by decide) v12 _ _ rfl
        obtain ⟨v', w', hr, h2, h3, h4⟩ := run_append_lit (P := Try.prog) (w.heap.size + 1) 49 49 3 i0 (.int .i64 0) 1 8 Try.underlying49 hif hz0 hz1 hz2 rfl (by decide) (v q) m _ ho g _ hk rfl (oneCell_one _ _) (by unfold maxLen; omega) (by omega) (Nat.le_trans HG.out.blk.lt hz.1.size)
        refine UponT.append _ _ _ _ _ _ rfl rfl rfl hr ⟨⟨h2, ?_⟩, grownBy_trans hz.1 h3, fun e => by cases e⟩
        rcases h4 with h4 | h4
        · exact .inl h4
        · exact .inr ⟨_, h4, hz.1.size⟩
      (try simp only [Act.put, List.setIfInBounds_toArray, List.set_cons_zero, List.set_cons_succ])
      refine SeqT.run (v := ?_) rfl rfl (fun _ wz hz => ?_) ?_ ?_; rotate_left; (go_simp; first | exact UponS.value (Since.refl _) | exact UponS.skip (Since.refl _)); (exact rfl); (try simp only [Act.put, List.setIfInBounds_toArray, List.set_cons_zero, List.set_cons_succ])
      refine SeqT.run (v := ?_) rfl rfl (fun _ wz hz => ?_) ?_ ?_; rotate_left; (go_simp; first | exact UponS.value (Since.refl _) | exact UponS.skip (Since.refl _)); (exact rfl); (try simp only [Act.put, List.setIfInBounds_toArray, List.set_cons_zero, List.set_cons_succ])
      refine SeqT.run (v := ?_) rfl rfl (fun _ wz hz => ?_) ?_ ?_; rotate_left; (go_simp; first | exact UponS.value (Since.refl _) | exact UponS.skip (Since.refl _)); (exact rfl); (try simp only [Act.put, List.setIfInBounds_toArray, List.set_cons_zero, List.set_cons_succ])
      refine SeqT.run (v := ?_) rfl rfl (fun _ wz hz => ?_) ?_ ?_; rotate_left; (go_simp; first | exact UponS.value (Since.refl _) | exact UponS.skip (Since.refl _)); (exact rfl); (try simp only [Act.put, List.setIfInBounds_toArray, List.set_cons_zero, List.set_cons_succ])
      intro wz hz hi
      have hz1 : wr.grownBy wz (v q).ownBlock := ⟨hz.1.os, hz.1.tape, hz.1.output, hz.1.size, hz.1.block⟩
      obtain ⟨hn1, hn2⟩ : wz.ownsRow (w.heap.size + 1) 3 1 v13 (m + 1) (XS ++ [Value.int .i64 one]) ∧ (v13.ownBlock = (v q).ownBlock ∨ ∃ b, v13.ownBlock = some b ∧ wr.heap.size ≤ b) := hi.all 13 v13 _ _ rfl
      have hcz : wz.cell? ⟨w.heap.size, q, none⟩ = some (v q) := hz1.cell hcq (fun e => hne e.symm)
      have hfz : wz.frozen? ⟨w.heap.size, q, none⟩ = false := (HG.out.blk.grown hz1 hne).free q
      have HN : Hid (Grows (wz.setCell ⟨w.heap.size, q, none⟩ v13) w.heap.size 176 3 1 (w.heap.size + 1) (i + 1) [.int .i64 one] (fun r => if r = q then v13 else v r)) :=
        HG.out.step hq (Nat.lt_succ_self _) hz1 (by rw [hm, hXS]; exact hn1) hn2
      have HB2 : Hid (Below w.heap.size w (wz.setCell ⟨w.heap.size, q, none⟩ v13)) :=
        (HB.out.grown hz1 (Nat.le_trans HB.out.size (Nat.le_refl _)) (fun k e => Nat.le_trans (Nat.le_succ _) (how.lt k e).1)).setCell (Nat.le_refl _) _
      obtain ⟨a13, c13, rfl⟩ := own_slice hn1
      clear hz hz1 hi hn1 hn2 how hcq hne
      go_wp2_with fail
      go_roundw
      case rel => exact ⟨i + 1, _, by omega, by go_num, HN.out, HB2.out⟩
      case measure => simp [intOf]; omega
    · obtain rfl : i = n := by omega
      go_wp2_with fail
      go_ret
      exact Po.mk ⟨v, rfl, HG.out, HB.out⟩
set_option maxHeartbeats 1000000 in
theorem grownEntry_any (n : Nat) (ea es ek : Int) (w : World) (hn : n ≤ 100000) :
    Calls Try.prog 83 #[.int .i64 n, .agg #[.int .i64 ea, .int .i64 es, .int .i64 ek]] w fun e w' => Po (fun e w' => ∃ v, e = .returned (.pointer (some ⟨w.heap.size + 1, 0, none⟩)) ∧ Grows w' (w.heap.size + 1) 171 32 3 (w.heap.size + 2) n [.int .i64 ea, .int .i64 es, .int .i64 ek] v ∧ Below w.heap.size w w') e w' := by
  go_enter Try.func83, Try.ntmps83
  have HE := Lib.hid (Blk.new w 32 [.int .i64 ea, .int .i64 es, .int .i64 ek])
  go_wp2_with fail
  go_loopw [10] (fun t wr => ∃ (i : Nat) (v : Nat → Value), i ≤ n ∧ t = .int .i64 i ∧ Hid (Grows wr (w.heap.size + 1) 171 32 3 (w.heap.size + 2) i [.int .i64 ea, .int .i64 es, .int .i64 ek] v) ∧ Hid (Blk wr w.heap.size 32 [.int .i64 ea, .int .i64 es, .int .i64 ek]) ∧ Hid (Below w.heap.size w wr)) (fun t _ => ((n : Int) - intOf t).toNat)
  case atStart => 
    refine ⟨0, fun _ => .slice none 0 0, Nat.zero_le _, rfl, ?_, HE.out.alloc _, ((Below.refl w.heap.size w).alloc (Nat.le_refl _) _).alloc (by simp) _⟩
    refine ⟨(by have := Blk.new (w.alloc (.cells #[.int .i64 ea, .int .i64 es, .int .i64 ek] 32)) 171 [.slice none 0 0, .slice none 0 0, .slice none 0 0, .slice none 0 0]; simpa using this), fun q hq => ?_, fun _ _ _ => rfl, fun _ _ _ _ _ => .inl rfl⟩
    rw [cnt4_zero q hq]
    exact World.ownsRow_nil _ _ _ _
  case round =>
    obtain ⟨i, v, hi, rfl, HG, HE2, HB⟩ := hrel
    by_cases hlt : i < n
    · obtain ⟨q, hq⟩ : ∃ q, i % 4 = q := ⟨_, rfl⟩
      have hq4 : q < 4 := by omega
      have htm : (i : Int).tmod 4 = (q : Int) := by rw [Int.tmod_eq_emod_of_nonneg (by omega)]; omega
      have hw1 : IntKind.i64.wrap (q : Int) = q := wrap_in _ ⟨by omega, by omega⟩
      have hq0 : (0 : Int) ≤ q := by omega
      have hq5 : (q : Int) < 4 := by omega
      obtain ⟨i0, hif, hz0, hz1, hz2⟩ := info_parts info_entry
      obtain ⟨m, hm⟩ : ∃ m, cnt4 i q = m := ⟨_, rfl⟩
      have hmi : m ≤ i := by rw [← hm]; exact cnt4_le i q hq4
      go_wp2_with fail
      have hcq : wr.cell? ⟨w.heap.size + 1, q, none⟩ = some (v q) := by
        rw [HG.out.blk.cell]
        rcases (show q = 0 ∨ q = 1 ∨ q = 2 ∨ q = 3 by omega) with e | e | e | e <;> rw [e] <;> rfl
      have how := HG.out.own q hq4
      rw [hm] at how
      obtain ⟨XS, hXS⟩ : ∃ XS, (List.replicate m [Value.int .i64 ea, Value.int .i64 es, Value.int .i64 ek]).flatten = XS := ⟨_, rfl⟩
      rw [hXS] at how
      have hne : (v q).ownBlock ≠ some (w.heap.size + 1) := own_ne how (Nat.lt_succ_self _)
      have hneE : (v q).ownBlock ≠ some w.heap.size := own_ne how (by omega)
      have e0 : wr.cell? ⟨w.heap.size, 0, none⟩ = some (.int .i64 ea) := HE2.out.cell 0
      have e1 : wr.cell? ⟨w.heap.size, 1, none⟩ = some (.int .i64 es) := HE2.out.cell 1
      have e2 : wr.cell? ⟨w.heap.size, 2, none⟩ = some (.int .i64 ek) := HE2.out.cell 2
      refine wp_region_g 18 [(10, []), (12, []), (13, [10, 12])] 13 (fun b wz => wr.drew.grownBy wz (v q).ownBlock ∧ (b = false → wz.ownsRow (w.heap.size + 2) 32 3 (v q) m XS)) (GrowJ (w.heap.size + 2) 3 32 (v q) m XS [.int .i64 ea, .int .i64 es, .int .i64 ek] wr.heap.size) [?_, ?_, ?_, ?_, ?_, ?_, ?_, ?_, ?_, ?_, undef, ?_, undef, undef, ?_, ?_, ?_, ?_] (by kernel_rfl) (by kernel_rfl) (by kernel_rfl) ⟨grownBy_refl _ _, fun _ => how⟩ (fun b x y h1 h2 => ⟨grownBy_trans h1.1 (grown_of_below h2 _), fun e => own_below (h1.2 e) h2⟩) GrowJ.keep ?_
      rotate_left 15
      simp only [List.take_succ_cons, List.take_zero, List.drop_succ_cons, List.drop_zero]
      refine SeqT.run (v := ?_) rfl rfl (fun _ wz hz => ?_) ?_ ?_; rotate_left; (go_simp; first | exact UponS.value (Since.refl _) | exact UponS.skip (Since.refl _)); (exact rfl); (try simp only [Act.put, List.setIfInBounds_toArray, List.set_cons_zero, List.set_cons_succ])
      refine SeqT.run (v := ?_) rfl rfl (fun _ wz hz => ?_) ?_ ?_; rotate_left; (go_simp; first | exact UponS.value (Since.refl _) | exact UponS.skip (Since.refl _)); (exact rfl); (try simp only [Act.put, List.setIfInBounds_toArray, List.set_cons_zero, List.set_cons_succ])
      refine SeqT.run (v := ?_) rfl rfl (fun _ wz hz => ?_) ?_ ?_; rotate_left; (go_simp; first | exact UponS.value (Since.refl _) | exact UponS.skip (Since.refl _)); (exact rfl); (try simp only [Act.put, List.setIfInBounds_toArray, List.set_cons_zero, List.set_cons_succ])
      refine SeqT.run (v := ?_) rfl rfl (fun _ wz hz => ?_) ?_ ?_; rotate_left; (go_simp; first | exact UponS.value (Since.refl _) | exact UponS.skip (Since.refl _)); (exact rfl); (try simp only [Act.put, List.setIfInBounds_toArray, List.set_cons_zero, List.set_cons_succ])
      refine SeqT.run (v := ?_) rfl rfl (fun _ wz hz => ?_) ?_ ?_; rotate_left; (go_simp; first | exact UponS.value (Since.refl _) | exact UponS.skip (Since.refl _)); (exact rfl); (try simp only [Act.put, List.setIfInBounds_toArray, List.set_cons_zero, List.set_cons_succ])
      refine SeqT.run (v := ?_) rfl rfl (fun _ wz hz => ?_) ?_ ?_; rotate_left; (go_simp; first | exact UponS.value (Since.refl _) | exact UponS.skip (Since.refl _)); (exact rfl); (try simp only [Act.put, List.setIfInBounds_toArray, List.set_cons_zero, List.set_cons_succ])
      refine SeqT.run (v := ?_) rfl rfl (fun _ wz hz => ?_) ?_ ?_; rotate_left; (go_simp; first | exact UponS.value (Since.refl _) | exact UponS.skip (Since.refl _)); (exact rfl); (try simp only [Act.put, List.setIfInBounds_toArray, List.set_cons_zero, List.set_cons_succ])
      refine SeqT.run (v := ?_) rfl rfl (fun _ wz hz => ?_) ?_ ?_; rotate_left; (go_simp; first | exact UponS.value (Since.refl _) | exact UponS.skip (Since.refl _)); (exact rfl); (try simp only [Act.put, List.setIfInBounds_toArray, List.set_cons_zero, List.set_cons_succ])
      refine SeqT.run (v := ?_) rfl rfl (fun _ wz hz => ?_) ?_ ?_; rotate_left; (go_simp; first | exact UponS.value (Since.refl _) | exact UponS.skip (Since.refl _)); (exact rfl); (try simp only [Act.put, List.setIfInBounds_toArray, List.set_cons_zero, List.set_cons_succ])
      refine SeqT.run (v := ?_) rfl rfl (fun _ wz hz => ?_) ?_ ?_; rotate_left; (go_simp; first | exact UponS.value (Since.refl _) | exact UponS.skip (Since.refl _)); (exact rfl); (try simp only [Act.put, List.setIfInBounds_toArray, List.set_cons_zero, List.set_cons_succ])
      refine SeqT.tie rfl (by decide) rfl (fun wz hz hd => ?_) (fun v10 _ _ => ?_)
      · have hcz : wz.cell? ⟨w.heap.size + 1, q, none⟩ = some (v q) := hz.1.cell hcq (fun e => hne e.symm)
        go_simp
        exact UponT.value ⟨⟨rfl, hz.2 rfl⟩, Since.refl _⟩
      (try simp only [Act.put, List.setIfInBounds_toArray, List.set_cons_zero, List.set_cons_succ])
      refine SeqT.run (v := ?_) rfl rfl (fun _ wz hz => ?_) ?_ ?_; rotate_left; (have e0z := hz.1.cell e0 (fun e => hneE e.symm); have e1z := hz.1.cell e1 (fun e => hneE e.symm); have e2z := hz.1.cell e2 (fun e => hneE e.symm); go_simp; exact UponS.value (Since.refl _)); (exact rfl); (try simp only [Act.put, List.setIfInBounds_toArray, List.set_cons_zero, List.set_cons_succ])
      refine SeqT.tie rfl (by decide) rfl (fun wz hz hd => ?_) (fun v12 _ _ => ?_)
      · go_simp
        exact UponT.value ⟨⟨wz.heap.size, rfl, Blk.new wz 32 [.int .i64 ea, .int .i64 es, .int .i64 ek]⟩, (Below.refl _ _).alloc (Nat.le_refl _) _⟩
      (try simp only [Act.put, List.setIfInBounds_toArray, List.set_cons_zero, List.set_cons_succ])
      refine SeqT.write rfl rfl rfl (fun wz hz hd => ?_) (fun v13 _ _ => ?_)
      · obtain ⟨rfl, ho⟩ := hd.all 10 (by decide) v10 _ _ rfl
        obtain ⟨g, rfl, hk⟩ := hd.all 12 (by decide) v12 _ _ rfl
        obtain ⟨v', w', hr, h2, h3, h4⟩ := run_append_lit (P := Try.prog) (w.heap.size + 2) 121 121 32 i0 (.agg #[.int .i64 0, .int .i64 0, .int .i64 0]) 3 24 Try.underlying121 hif hz0 hz1 hz2 rfl (by decide) (v q) m _ ho g _ hk rfl (oneCell_three _ _ _) (by unfold maxLen; omega) (by omega) (Nat.le_trans HG.out.blk.lt hz.1.size)
        refine UponT.append _ _ _ _ _ _ rfl rfl rfl hr ⟨⟨h2, ?_⟩, grownBy_trans hz.1 h3, fun e => by cases e⟩
        rcases h4 with h4 | h4
        · exact .inl h4
        · exact .inr ⟨_, h4, hz.1.size⟩
      (try simp only [Act.put, List.setIfInBounds_toArray, List.set_cons_zero, List.set_cons_succ])
      refine SeqT.run (v := ?_) rfl rfl (fun _ wz hz => ?_) ?_ ?_; rotate_left; (go_simp; first | exact UponS.value (Since.refl _) | exact UponS.skip (Since.refl _)); (exact rfl); (try simp only [Act.put, List.setIfInBounds_toArray, List.set_cons_zero, List.set_cons_succ])
      refine SeqT.run (v := ?_) rfl rfl (fun _ wz hz => ?_) ?_ ?_; rotate_left; (go_simp; first | exact UponS.value (Since.refl _) | exact UponS.skip (Since.refl _)); (exact rfl); (try simp only [Act.put, List.setIfInBounds_toArray, List.set_cons_zero, List.set_cons_succ])
      refine SeqT.run (v := ?_) rfl rfl (fun _ wz hz => ?_) ?_ ?_; rotate_left; (go_simp; first | exact UponS.value (Since.refl _) | exact UponS.skip (Since.refl _)); (exact rfl); (try simp only [Act.put, List.setIfInBounds_toArray, List.set_cons_zero, List.set_cons_succ])
      refine SeqT.run (v := ?_) rfl rfl (fun _ wz hz => ?_) ?_ ?_; rotate_left; (go_simp; first | exact UponS.value (Since.refl _) | exact UponS.skip (Since.refl _)); (exact rfl); (try simp only [Act.put, List.setIfInBounds_toArray, List.set_cons_zero, List.set_cons_succ])
      intro wz hz hi
      have hz1 : wr.grownBy wz (v q).ownBlock := ⟨hz.1.os, hz.1.tape, hz.1.output, hz.1.size, hz.1.block⟩
      obtain ⟨hn1, hn2⟩ : wz.ownsRow (w.heap.size + 2) 32 3 v13 (m + 1) (XS ++ [Value.int .i64 ea, Value.int .i64 es, Value.int .i64 ek]) ∧ (v13.ownBlock = (v q).ownBlock ∨ ∃ b, v13.ownBlock = some b ∧ wr.heap.size ≤ b) := hi.all 13 v13 _ _ rfl
      have hcz : wz.cell? ⟨w.heap.size + 1, q, none⟩ = some (v q) := hz1.cell hcq (fun e => hne e.symm)
      have hfz : wz.frozen? ⟨w.heap.size + 1, q, none⟩ = false := (HG.out.blk.grown hz1 hne).free q
      have HN : Hid (Grows (wz.setCell ⟨w.heap.size + 1, q, none⟩ v13) (w.heap.size + 1) 171 32 3 (w.heap.size + 2) (i + 1) [.int .i64 ea, .int .i64 es, .int .i64 ek] (fun r => if r = q then v13 else v r)) :=
        HG.out.step hq (Nat.lt_succ_self _) hz1 (by rw [hm, hXS]; exact hn1) hn2
      have HB2 : Hid (Below w.heap.size w (wz.setCell ⟨w.heap.size + 1, q, none⟩ v13)) :=
        (HB.out.grown hz1 (Nat.le_trans HB.out.size (Nat.le_refl _)) (fun k e => Nat.le_trans (Nat.le_add_right _ 2) (how.lt k e).1)).setCell (Nat.le_succ _) _
      have HE3 := Lib.hid ((HE2.out.grown hz1 hneE).set_other (a := ⟨w.heap.size + 1, q, none⟩) (by simp) v13)
      obtain ⟨a13, c13, rfl⟩ := own_slice hn1
      clear hz hz1 hi hn1 hn2 how hcq hne hneE
      go_wp2_with fail
      go_roundw
      case rel => exact ⟨i + 1, _, by omega, by go_num, HN.out, HE3.out, HB2.out⟩
      case measure => simp [intOf]; omega
    · obtain rfl : i = n := by omega
      go_wp2_with fail
      go_ret
      exact Po.mk ⟨v, rfl, HG.out, HB.out⟩

end Go.Proofs.Ytlkapaecaeldpaa
