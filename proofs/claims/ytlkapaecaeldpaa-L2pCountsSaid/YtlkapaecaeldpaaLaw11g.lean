/-
  The walks of the laws over package l2p: does.
-/
import Derived.Test.YtlkapaecaeldpaaLaw11e
import Derived.Test.YtlkapaecaeldpaaLaw11d
import Derived.Test.YtlkapaecaeldpaaRef11g
set_option linter.unusedVariables false
set_option linter.unusedSimpArgs false
set_option maxRecDepth 16384
namespace Go.Proofs.Ytlkapaecaeldpaa
open Go.RowKit

/-- what is there behind a call -/
def doesTo (g : Geo) (to : List Ent) (o : OpV) : List Ent :=
  if o.d = 0 ∨ o.d = 1 ∨ o.d = 2 ∨ o.d = 3 then (setTo g to o.lba o.e).2.2 else if o.d = 4 ∨ o.d = 5 then (moveTo g to o.lba o.f o.t).2.2 else to

theorem doesTo_def (g : Geo) (to : List Ent) (d lba f t ea es ek : Int) : doesTo g to ⟨d, lba, f, t, ea, es, ek⟩ =
  if d = 0 ∨ d = 1 ∨ d = 2 ∨ d = 3 then (setTo g to lba ⟨ea, es, ek⟩).2.2 else if d = 4 ∨ d = 5 then (moveTo g to lba f t).2.2 else to := rfl

theorem doesTo_len (g : Geo) (to : List Ent) (o : OpV) : (doesTo g to o).length = to.length := by
  unfold doesTo
  split
  · exact setTo_len g to _ _
  · split
    · exact moveTo_len g to _ _ _
    · rfl

theorem own_block {w w' : World} {B : Nat} {t : TypeId} {sz n : Nat} {v : Value} {xs : List Value} (h : w.ownsRow B t sz v n xs) (hb : ∀ k, B ≤ k → k < w.heap.size → w'.heap[k]? = w.heap[k]?) : w'.ownsRow B t sz v n xs := by
  obtain ⟨h1, h2⟩ := h
  refine ⟨h1, ?_⟩
  rcases h2 with h2 | ⟨b, cap, cur, h3, h4, h5, h6⟩
  · exact .inl h2
  · exact .inr ⟨b, cap, cur, h3, h4, (hb b h4 (Array.getElem?_eq_some_iff.1 h5).1).trans h5, h6⟩

theorem RefAt.only {w w' : World} {B C r : Nat} {g : Geo} {to : List Ent} {v : Value} (h : RefAt w C r g to v) (ho : Only B C w w') : RefAt w' C r g to v :=
  ⟨h.blk.only ho (.inr h.base), own_block h.row fun k hk hl => ho.block k hl (.inr (by have := h.base; omega)), h.base⟩
theorem below_only {C : Nat} {w w' : World} (h : Below C w w') : Only C w.heap.size w w' := ⟨h.os, h.tape, h.output, h.size, fun k hk hc => h.block k (by omega)⟩

/-- how does ends -/
def DoesPost (w : World) (B C m r : Nat) (g : Geo) (kt kw vb : Nat) (st sw : Shards) (to : List Ent) (e : Ending) (w' : World) : Prop :=
  e = .returned (.bool true) ∧ MapAt w' B C m g to kt kw vb st sw ∧ (∃ v, RefAt w' C r g to v) ∧ Below B w w'

/-- what is known within the last comparison -/
def DoesJ (t : TypeId) (M : Nat) (ys : List Int) (i : Nat) (v : Value) (lo hi : Nat) (w : World) : Prop :=
  match i with
  | 13 => ∃ b, w.ownsRow b t 1 v M (bv ys)
  | 14 => v = .string (strOfNums ys)
  | 18 => ∃ b, w.ownsRow b t 1 v M (bv ys)
  | 19 => v = .string (strOfNums ys)
  | 20 => v = .bool true
  | 21 => v = .bool true
  | _ => True
theorem DoesJ.keep {t : TypeId} {M : Nat} {ys : List Int} (i : Nat) (v : Value) (lo hi : Nat) (w w' : World) (h : DoesJ t M ys i v lo hi w) (hs : Since w w') : DoesJ t M ys i v lo hi w' := by
  unfold DoesJ at *
  split at h
  · obtain ⟨b, h⟩ := h; exact ⟨b, own_below h hs⟩
  · exact h
  · obtain ⟨b, h⟩ := h; exact ⟨b, own_below h hs⟩
  · exact h
  · exact h
  · exact h
  · trivial

set_option maxHeartbeats 4000000 in
theorem does_any {w : World} {B C m r : Nat} {g : Geo} {to : List Ent} {kt kw vb : Nat} {st sw : Shards} {v : Value} (HM : MapAt w B C m g to kt kw vb st sw) (HR : RefAt w C r g to v) (o : OpV) :
    Calls Try.prog 17 #[.pointer (some ⟨m, 0, none⟩), .pointer (some ⟨r, 0, none⟩), o.v] w fun e w' => DoesPost w B C m r g kt kw vb st sw (doesTo g to o) e w' := by
  obtain ⟨d, lba, f, t, ea, es, ek⟩ := o
  have HD := Lib.hid (doesTo_def g to d lba f t ea es ek)
  have hbx : Below w.heap.size w (w.alloc (.cells #[.int .i64 d, .int .i64 lba, .int .i64 f, .int .i64 t, .int .i64 ea, .int .i64 es, .int .i64 ek] 34)) := (Below.refl w.heap.size w).alloc (Nat.le_refl _) _
  have HM0 := Lib.hid (HM.below hbx)
  have HR0 := Lib.hid (HR.below hbx)
  have hBC : B ≤ C := by have := HM.raw.inM; omega
  have hCw : C ≤ w.heap.size := HM.raw.top
  have HB0 := Lib.hid (hbx.mono (show B ≤ w.heap.size by omega))
  have hBw : B ≤ w.heap.size := by omega
  have HBa : Hid (B ≤ (w.alloc (.cells #[.int .i64 d, .int .i64 lba, .int .i64 f, .int .i64 t, .int .i64 ea, .int .i64 es, .int .i64 ek] 34)).heap.size) := Lib.hid (by simp; omega)
  have HX0 := Lib.hid (Blk.new w 34 [.int .i64 d, .int .i64 lba, .int .i64 f, .int .i64 t, .int .i64 ea, .int .i64 es, .int .i64 ek])
  have hok := HM.ok
  have hfine := HM.fine
  have hlen := HM.len
  have HOK := Lib.hid hok
  have HFI := Lib.hid hfine
  clear HM HR hbx hok hfine
  unfold OpV.v
  simp only []
  go_enter Try.func17, Try.ntmps17
  by_cases hd4 : d = 0 ∨ d = 1 ∨ d = 2 ∨ d = 3
  · have HD2 := HD.out
    rw [if_pos hd4] at HD2
    have HDS := Lib.hid HD2
    clear HD HD2
    rcases hd4 with rfl | rfl | rfl | rfl
    all_goals
      obtain ⟨R, hR⟩ : ∃ R, setTo g to lba ⟨ea, es, ek⟩ = R := ⟨_, rfl⟩
      rw [hR] at HDS
      (go_wp2_with fail); refine (mapSet_any HM0.out lba ⟨ea, es, ek⟩).mono ?_
      intro e w1 hp
      obtain ⟨rfl, hm, ho⟩ := hp
      rw [hR] at hm ⊢
      have HR1 := Lib.hid (HR0.out.only ho)
      have hx := HX0.out.only ho (.inr hCw)
      have c1 : w1.cell? ⟨w.heap.size, 1, none⟩ = some (.int .i64 lba) := hx.cell 1
      have c2 : w1.cell? ⟨w.heap.size, 2, none⟩ = some (.int .i64 f) := hx.cell 2
      have c3 : w1.cell? ⟨w.heap.size, 3, none⟩ = some (.int .i64 t) := hx.cell 3
      have c4 : w1.cell? ⟨w.heap.size, 4, none⟩ = some (.int .i64 ea) := hx.cell 4
      have c5 : w1.cell? ⟨w.heap.size, 5, none⟩ = some (.int .i64 es) := hx.cell 5
      have c6 : w1.cell? ⟨w.heap.size, 6, none⟩ = some (.int .i64 ek) := hx.cell 6
      have hxl := hx.lt
      have HB1 := Lib.hid (HB0.out.trans (ho.below (Nat.le_refl B) HBa.out))
      have HM1 := Lib.hid hm
      have HRR := Lib.hid hR
      clear hm ho hx hR
      obtain ⟨b1, e1, to2⟩ := R
      simp only []
      (go_wp2_with fail); refine (ref11Set_any HR1.out HOK.out HFI.out hlen lba ⟨ea, es, ek⟩).mono ?_
      intro e w2 hp
      rw [HRR.out] at hp
      obtain ⟨rfl, hr, hb⟩ := hp
      have HM2 := Lib.hid (HM1.out.only (below_only hb) (.inl (Nat.le_refl _)))
      have HB2 := Lib.hid (HB1.out.trans (hb.mono hBC))
      have HR2 := Lib.hid hr
      clear hr hb c1 c2 c3 c4 c5 c6 hxl
      simp only []
      go_wp2_with fail
      go_ret
      refine ⟨ret_bool (by simp), ?_, ?_, HB2.out⟩
      · rw [HDS.out]; exact HM2.out
      · rw [HDS.out]; exact HR2.out
  by_cases hd5 : d = 4 ∨ d = 5
  · have HD2 := HD.out
    rw [if_neg hd4, if_pos hd5] at HD2
    have HDS := Lib.hid HD2
    clear HD HD2 hd4
    rcases hd5 with rfl | rfl
    all_goals
      obtain ⟨R, hR⟩ : ∃ R, moveTo g to lba f t = R := ⟨_, rfl⟩
      rw [hR] at HDS
      (go_wp2_with fail); refine (mapMove_any HM0.out lba f t).mono ?_
      intro e w1 hp
      obtain ⟨rfl, hm, ho⟩ := hp
      rw [hR] at hm ⊢
      have HR1 := Lib.hid (HR0.out.only ho)
      have hx := HX0.out.only ho (.inr hCw)
      have c1 : w1.cell? ⟨w.heap.size, 1, none⟩ = some (.int .i64 lba) := hx.cell 1
      have c2 : w1.cell? ⟨w.heap.size, 2, none⟩ = some (.int .i64 f) := hx.cell 2
      have c3 : w1.cell? ⟨w.heap.size, 3, none⟩ = some (.int .i64 t) := hx.cell 3
      have c4 : w1.cell? ⟨w.heap.size, 4, none⟩ = some (.int .i64 ea) := hx.cell 4
      have c5 : w1.cell? ⟨w.heap.size, 5, none⟩ = some (.int .i64 es) := hx.cell 5
      have c6 : w1.cell? ⟨w.heap.size, 6, none⟩ = some (.int .i64 ek) := hx.cell 6
      have hxl := hx.lt
      have HB1 := Lib.hid (HB0.out.trans (ho.below (Nat.le_refl B) HBa.out))
      have HM1 := Lib.hid hm
      have HRR := Lib.hid hR
      clear hm ho hx hR
      obtain ⟨b1, e1, to2⟩ := R
      simp only []
      (go_wp2_with fail); refine (ref11Move_any HR1.out HOK.out HFI.out hlen lba f t).mono ?_
      intro e w2 hp
      rw [HRR.out] at hp
      obtain ⟨rfl, hr, hb⟩ := hp
      have HM2 := Lib.hid (HM1.out.only (below_only hb) (.inl (Nat.le_refl _)))
      have HB2 := Lib.hid (HB1.out.trans (hb.mono hBC))
      have HR2 := Lib.hid hr
      clear hr hb c1 c2 c3 c4 c5 c6 hxl
      simp only []
      go_wp2_with fail
      go_ret
      refine ⟨ret_bool (by simp), ?_, ?_, HB2.out⟩
      · rw [HDS.out]; exact HM2.out
      · rw [HDS.out]; exact HR2.out
  have HD2 := HD.out
  rw [if_neg hd4, if_neg hd5] at HD2
  have HDS := Lib.hid HD2
  clear HD HD2
  have e0 : (d == 0) = false := by rw [beq_eq_false_iff_ne]; omega
  have e1 : (d == 1) = false := by rw [beq_eq_false_iff_ne]; omega
  have e2 : (d == 2) = false := by rw [beq_eq_false_iff_ne]; omega
  have e3 : (d == 3) = false := by rw [beq_eq_false_iff_ne]; omega
  have e4 : (d == 4) = false := by rw [beq_eq_false_iff_ne]; omega
  have e5 : (d == 5) = false := by rw [beq_eq_false_iff_ne]; omega
  clear hd4 hd5
  by_cases h6 : d = 6
  · subst h6
    have HGET : Hid (∃ (x : Ent) (er : Int), (∀ wy B C, MapAt wy B C m g to kt kw vb st sw → Calls Try.prog 36 #[.pointer (some ⟨m, 0, none⟩), .int .i64 lba] wy fun e w' => e = .returned (.tuple #[x.v, .int .i64 er]) ∧ Below wy.heap.size wy w') ∧
        (∀ wy B, RefAt wy B r g to v → Calls Try.prog 68 #[.pointer (some ⟨r, 0, none⟩), .int .i64 lba] wy fun e w' => e = .returned (.tuple #[x.v, .int .i64 er]) ∧ Below wy.heap.size wy w')) := by
      by_cases hin : 0 ≤ lba ∧ lba < to.length
      · obtain ⟨i, rfl⟩ : ∃ i : Nat, lba = i := ⟨lba.toNat, by omega⟩
        obtain ⟨x, hx⟩ : ∃ x, to[i]? = some x := ⟨_, List.getElem?_eq_getElem (by omega)⟩
        exact ⟨x, 0, fun wy B C h => mapGet_any h i _ hx, fun wy B h => ref11Get_any h i _ hx⟩
      · exact ⟨⟨0, 0, 0⟩, 2, fun wy B C h => mapGetNo_any h lba hin, fun wy B h => ref11GetNo_any h lba hin⟩
    obtain ⟨⟨xa, xs, xk⟩, er, hg1, hg2⟩ := HGET.out
    have HG1 := Lib.hid hg1
    have HG2 := Lib.hid hg2
    clear hg1 hg2 HGET
    (go_wp2_with fail); refine (HG1.out _ B C HM0.out).mono ?_
    rintro e w1 ⟨rfl, hb⟩
    simp only [Ent.v]
    have hby : Below w1.heap.size w1 (w1.alloc (.cells #[.int .i64 xa, .int .i64 xs, .int .i64 xk] 32)) := (Below.refl w1.heap.size w1).alloc (Nat.le_refl _) _
    have HM1 := Lib.hid ((HM0.out.below hb).below hby)
    have HR1 := Lib.hid ((HR0.out.below hb).below hby)
    have HB1 := Lib.hid ((HB0.out.trans (hb.mono HBa.out)).trans (hby.mono (Nat.le_trans HBa.out hb.size)))
    have HY1 := Lib.hid (Blk.new w1 32 [.int .i64 xa, .int .i64 xs, .int .i64 xk])
    have hx := (HX0.out.below hb)
    have c1 : w1.cell? ⟨w.heap.size, 1, none⟩ = some (.int .i64 lba) := hx.cell 1
    have c2 : w1.cell? ⟨w.heap.size, 2, none⟩ = some (.int .i64 f) := hx.cell 2
    have c3 : w1.cell? ⟨w.heap.size, 3, none⟩ = some (.int .i64 t) := hx.cell 3
    have c4 : w1.cell? ⟨w.heap.size, 4, none⟩ = some (.int .i64 ea) := hx.cell 4
    have c5 : w1.cell? ⟨w.heap.size, 5, none⟩ = some (.int .i64 es) := hx.cell 5
    have c6 : w1.cell? ⟨w.heap.size, 6, none⟩ = some (.int .i64 ek) := hx.cell 6
    have hxl := hx.lt
    have hnew : w.heap.size ≠ w1.heap.size := by omega
    clear hb hby hx
    (go_wp2_with fail); refine (HG2.out _ C HR1.out).mono ?_
    rintro e w2 ⟨rfl, hb⟩
    simp only [Ent.v]
    have hby : Below w2.heap.size w2 (w2.alloc (.cells #[.int .i64 xa, .int .i64 xs, .int .i64 xk] 32)) := (Below.refl w2.heap.size w2).alloc (Nat.le_refl _) _
    have HM2 := Lib.hid ((HM1.out.below hb).below hby)
    have HR2 := Lib.hid ((HR1.out.below hb).below hby)
    have HB2 := Lib.hid ((HB1.out.trans (hb.mono (Nat.le_trans hBw HB1.out.size))).trans (hby.mono (Nat.le_trans (Nat.le_trans hBw HB1.out.size) hb.size)))
    have hy2 := HY1.out.below hb
    have x0 : w2.cell? ⟨w1.heap.size, 0, none⟩ = some (.int .i64 xa) := hy2.cell 0
    have x1 : w2.cell? ⟨w1.heap.size, 1, none⟩ = some (.int .i64 xs) := hy2.cell 1
    have x2 : w2.cell? ⟨w1.heap.size, 2, none⟩ = some (.int .i64 xk) := hy2.cell 2
    have hyl := hy2.lt
    clear hy2
    generalize w1.heap.size = yb at x0 x1 x2 hyl ⊢
    clear hb hby c1 c2 c3 c4 c5 c6 hxl hnew
    go_wp2_with fail
    go_ret
    refine ⟨ret_bool (by simp), ?_, ?_, HB2.out⟩
    · rw [HDS.out]; exact HM2.out
    · rw [HDS.out]; exact ⟨_, HR2.out⟩
  have e6 : (d == 6) = false := by rw [beq_eq_false_iff_ne]; omega
  by_cases h7 : d = 7
  · subst h7
    clear e0 e1 e2 e3 e4 e5 e6 h6
    obtain ⟨hl1, hl2⟩ := live_same HFI.out t
    (go_wp2_with fail); refine (mapLive_any HM0.out t).mono ?_
    rintro e w1 ⟨rfl, hb⟩
    have HM1 := Lib.hid (HM0.out.below hb)
    have HR1 := Lib.hid (HR0.out.below hb)
    have HB1 := Lib.hid (HB0.out.trans (hb.mono HBa.out))
    have hx := HX0.out.below hb
    have c1 : w1.cell? ⟨w.heap.size, 1, none⟩ = some (.int .i64 lba) := hx.cell 1
    have c2 : w1.cell? ⟨w.heap.size, 2, none⟩ = some (.int .i64 f) := hx.cell 2
    have c3 : w1.cell? ⟨w.heap.size, 3, none⟩ = some (.int .i64 t) := hx.cell 3
    have c4 : w1.cell? ⟨w.heap.size, 4, none⟩ = some (.int .i64 ea) := hx.cell 4
    have c5 : w1.cell? ⟨w.heap.size, 5, none⟩ = some (.int .i64 es) := hx.cell 5
    have c6 : w1.cell? ⟨w.heap.size, 6, none⟩ = some (.int .i64 ek) := hx.cell 6
    have hxl := hx.lt
    rw [hl1, hl2]
    clear hb hx hl1 hl2
    obtain ⟨LN, hLN⟩ : ∃ x, rliveN to t = x := ⟨_, rfl⟩
    obtain ⟨LB, hLB⟩ : ∃ x, rliveB to t = x := ⟨_, rfl⟩
    have HLL := Lib.hid (And.intro hLN hLB)
    rw [hLN, hLB]
    clear hLN hLB
    (go_wp2_with fail); refine (ref11Live_any HR1.out HFI.out hlen t).mono ?_
    rintro e w2 ⟨rfl, rfl⟩
    rw [HLL.out.1, HLL.out.2]
    go_wp2_with fail
    go_ret
    refine ⟨ret_bool (by simp), ?_, ?_, HB1.out⟩
    · rw [HDS.out]; exact HM1.out
    · rw [HDS.out]; exact ⟨_, HR1.out⟩
  have e7 : (d == 7) = false := by rw [beq_eq_false_iff_ne]; omega
  by_cases h8 : d = 8
  · subst h8
    clear e0 e1 e2 e3 e4 e5 e6 h6 e7 h7
    have hM9 := lineBits_length g to t
    obtain ⟨ys, hys⟩ : ∃ x, lineBits g to t = x := ⟨_, rfl⟩
    have HYS := Lib.hid hys
    rw [hys] at hM9
    obtain ⟨M, hM⟩ : ∃ M, ys.length = M := ⟨_, rfl⟩
    have HMM := Lib.hid hM
    rw [hM] at hM9
    clear hys hM
    go_wp2_with fail
    generalize hwa : w.alloc (.cells #[.int .i64 8, .int .i64 lba, .int .i64 f, .int .i64 t, .int .i64 ea, .int .i64 es, .int .i64 ek] 34) = wa at HM0 HR0 HB0 HX0 HBa ⊢
    have hx := HX0.out
    have c3 : wa.cell? ⟨w.heap.size, 3, none⟩ = some (.int .i64 t) := hx.cell 3
    clear hx
    refine wp_region_t 22 [(13, []), (14, [13]), (18, []), (19, [18]), (20, [14, 19]), (21, [20])] 23 (DoesJ 5 M ys) [?_, ?_, ?_, ?_, ?_, ?_, ?_, ?_, ?_, ?_, ?_, ?_, ?_, undef, undef, ?_, ?_, ?_, undef, undef, undef, undef] (by kernel_rfl) (by kernel_rfl) (by kernel_rfl) DoesJ.keep ?_
    rotate_left 16
    simp only [List.take_succ_cons, List.take_zero, List.drop_succ_cons, List.drop_zero]
    refine SeqT.run (v := ?_) rfl rfl (fun _ wz hz => ?_) ?_ ?_; rotate_left; (have hzc := hz.cell; have hzf := hz.frozen; go_simp; first | exact UponS.value (Since.refl _) | exact UponS.skip (Since.refl _)); (exact rfl); (try simp only [Act.put, List.setIfInBounds_toArray, List.set_cons_zero, List.set_cons_succ])
    refine SeqT.run (v := ?_) rfl rfl (fun _ wz hz => ?_) ?_ ?_; rotate_left; (have hzc := hz.cell; have hzf := hz.frozen; go_simp; first | exact UponS.value (Since.refl _) | exact UponS.skip (Since.refl _)); (exact rfl); (try simp only [Act.put, List.setIfInBounds_toArray, List.set_cons_zero, List.set_cons_succ])
    refine SeqT.run (v := ?_) rfl rfl (fun _ wz hz => ?_) ?_ ?_; rotate_left; (have hzc := hz.cell; have hzf := hz.frozen; go_simp; first | exact UponS.value (Since.refl _) | exact UponS.skip (Since.refl _)); (exact rfl); (try simp only [Act.put, List.setIfInBounds_toArray, List.set_cons_zero, List.set_cons_succ])
    refine SeqT.run (v := ?_) rfl rfl (fun _ wz hz => ?_) ?_ ?_; rotate_left; (have hzc := hz.cell; have hzf := hz.frozen; go_simp; refine UponS.call ?_; go_at_call 43; refine (mapValidAll_any (HM0.out.sinceD hz) t).mono ?_; rintro e wy ⟨rfl, rfl⟩; refine ⟨?_, Since.refl _⟩; rfl); (exact rfl); (try simp only [Act.put, List.setIfInBounds_toArray, List.set_cons_zero, List.set_cons_succ])
    refine SeqT.run (v := ?_) rfl rfl (fun _ wz hz => ?_) ?_ ?_; rotate_left; (have hzc := hz.cell; have hzf := hz.frozen; go_simp; first | exact UponS.value (Since.refl _) | exact UponS.skip (Since.refl _)); (exact rfl); (try simp only [Act.put, List.setIfInBounds_toArray, List.set_cons_zero, List.set_cons_succ])
    refine SeqT.run (v := ?_) rfl rfl (fun _ wz hz => ?_) ?_ ?_; rotate_left; (have hzc := hz.cell; have hzf := hz.frozen; go_simp; first | exact UponS.value (Since.refl _) | exact UponS.skip (Since.refl _)); (exact rfl); (try simp only [Act.put, List.setIfInBounds_toArray, List.set_cons_zero, List.set_cons_succ])
    refine SeqT.run (v := ?_) rfl rfl (fun _ wz hz => ?_) ?_ ?_; rotate_left; (have hzc := hz.cell; have hzf := hz.frozen; go_simp; first | exact UponS.value (Since.refl _) | exact UponS.skip (Since.refl _)); (exact rfl); (try simp only [Act.put, List.setIfInBounds_toArray, List.set_cons_zero, List.set_cons_succ])
    refine SeqT.run (v := ?_) rfl rfl (fun _ wz hz => ?_) ?_ ?_; rotate_left; (have hzc := hz.cell; have hzf := hz.frozen; go_simp; refine UponS.call ?_; go_at_call 70; refine (ref11Valid_any (HR0.out.below ((Below.refl wa.heap.size wa).drew.trans hz.below)) HOK.out HFI.out hlen t).mono ?_; rintro e wy ⟨rfl, hb⟩; refine ⟨?_, hb⟩; rfl); (exact rfl); (try simp only [Act.put, List.setIfInBounds_toArray, List.set_cons_zero, List.set_cons_succ])
    refine SeqT.run (v := ?_) rfl rfl (fun _ wz hz => ?_) ?_ ?_; rotate_left; (have hzc := hz.cell; have hzf := hz.frozen; go_simp; first | exact UponS.value (Since.refl _) | exact UponS.skip (Since.refl _)); (exact rfl); (try simp only [Act.put, List.setIfInBounds_toArray, List.set_cons_zero, List.set_cons_succ])
    refine SeqT.run (v := ?_) rfl rfl (fun _ wz hz => ?_) ?_ ?_; rotate_left; (have hzc := hz.cell; have hzf := hz.frozen; go_simp; first | exact UponS.value (Since.refl _) | exact UponS.skip (Since.refl _)); (exact rfl); (try simp only [Act.put, List.setIfInBounds_toArray, List.set_cons_zero, List.set_cons_succ])
    refine SeqT.run (v := ?_) rfl rfl (fun _ wz hz => ?_) ?_ ?_; rotate_left; (have hzc := hz.cell; have hzf := hz.frozen; go_simp; first | exact UponS.value (Since.refl _) | exact UponS.skip (Since.refl _)); (exact rfl); (try simp only [Act.put, List.setIfInBounds_toArray, List.set_cons_zero, List.set_cons_succ])
    refine SeqT.run (v := ?_) rfl rfl (fun _ wz hz => ?_) ?_ ?_; rotate_left; (have hzc := hz.cell; have hzf := hz.frozen; go_simp; first | exact UponS.value (Since.refl _) | exact UponS.skip (Since.refl _)); (exact rfl); (try simp only [Act.put, List.setIfInBounds_toArray, List.set_cons_zero, List.set_cons_succ])
    refine SeqT.run (v := ?_) rfl rfl (fun _ wz hz => ?_) ?_ ?_; rotate_left; (have hzc := hz.cell; have hzf := hz.frozen; go_simp; first | exact UponS.value (Since.refl _) | exact UponS.skip (Since.refl _)); (exact rfl); (try simp only [Act.put, List.setIfInBounds_toArray, List.set_cons_zero, List.set_cons_succ])
    refine SeqT.tie rfl (by decide) rfl (fun wz hz hd => ?_) (fun v13 _ _ => ?_)
    · have hzc := hz.cell
      go_simp
      refine UponT.call ?_
      go_at_call 39
      refine (mapBitsAll_any (HM0.out.sinceD hz) t).mono ?_
      rintro e wy ⟨u, rfl, ho, hb⟩
      rw [HYS.out, HMM.out] at ho
      exact ⟨u, rfl, ⟨_, ho⟩, hb⟩
    (try simp only [Act.put, List.setIfInBounds_toArray, List.set_cons_zero, List.set_cons_succ])
    refine SeqT.tie rfl (by decide) rfl (fun wz hz hd => ?_) (fun v14 _ _ => ?_)
    · obtain ⟨bs, ho⟩ := hd.all 13 (by decide) v13 _ _ rfl
      exact UponT.convert _ _ _ _ _ rfl rfl (own_str Try.underlying45 Try.underlying5 Try.underlying9 ho (by omega)) ⟨rfl, Since.refl _⟩
    (try simp only [Act.put, List.setIfInBounds_toArray, List.set_cons_zero, List.set_cons_succ])
    refine SeqT.run (v := ?_) rfl rfl (fun _ wz hz => ?_) ?_ ?_; rotate_left; (have hzc := hz.cell; have hzf := hz.frozen; go_simp; first | exact UponS.value (Since.refl _) | exact UponS.skip (Since.refl _)); (exact rfl); (try simp only [Act.put, List.setIfInBounds_toArray, List.set_cons_zero, List.set_cons_succ])
    refine SeqT.run (v := ?_) rfl rfl (fun _ wz hz => ?_) ?_ ?_; rotate_left; (have hzc := hz.cell; have hzf := hz.frozen; go_simp; first | exact UponS.value (Since.refl _) | exact UponS.skip (Since.refl _)); (exact rfl); (try simp only [Act.put, List.setIfInBounds_toArray, List.set_cons_zero, List.set_cons_succ])
    refine SeqT.run (v := ?_) rfl rfl (fun _ wz hz => ?_) ?_ ?_; rotate_left; (have hzc := hz.cell; have hzf := hz.frozen; go_simp; first | exact UponS.value (Since.refl _) | exact UponS.skip (Since.refl _)); (exact rfl); (try simp only [Act.put, List.setIfInBounds_toArray, List.set_cons_zero, List.set_cons_succ])
    refine SeqT.tie rfl (by decide) rfl (fun wz hz hd => ?_) (fun v18 _ _ => ?_)
    · have hzc := hz.cell
      go_simp
      refine UponT.call ?_
      go_at_call 71
      refine (ref11BitsAll_any (HR0.out.below ((Below.refl wa.heap.size wa).drew.trans hz.below)) HOK.out HFI.out hlen t).mono ?_
      rintro e wy ⟨u, rfl, ho, hb⟩
      rw [HYS.out, HMM.out] at ho
      exact ⟨u, rfl, ⟨_, ho⟩, hb⟩
    (try simp only [Act.put, List.setIfInBounds_toArray, List.set_cons_zero, List.set_cons_succ])
    refine SeqT.tie rfl (by decide) rfl (fun wz hz hd => ?_) (fun v19 _ _ => ?_)
    · obtain ⟨bs, ho⟩ := hd.all 18 (by decide) v18 _ _ rfl
      exact UponT.convert _ _ _ _ _ rfl rfl (own_str Try.underlying45 Try.underlying5 Try.underlying9 ho (by omega)) ⟨rfl, Since.refl _⟩
    (try simp only [Act.put, List.setIfInBounds_toArray, List.set_cons_zero, List.set_cons_succ])
    refine SeqT.tie rfl (by decide) rfl (fun wz hz hd => ?_) (fun v20 _ _ => ?_)
    · obtain rfl : v14 = .string (strOfNums ys) := hd.all 14 (by decide) v14 _ _ rfl
      obtain rfl : v19 = .string (strOfNums ys) := hd.all 19 (by decide) v19 _ _ rfl
      go_simp
      exact UponT.value ⟨rfl, Since.refl _⟩
    (try simp only [Act.put, List.setIfInBounds_toArray, List.set_cons_zero, List.set_cons_succ])
    refine SeqT.tie rfl (by decide) rfl (fun wz hz hd => ?_) (fun v21 _ _ => ?_)
    · obtain rfl : v20 = .bool true := hd.all 20 (by decide) v20 _ _ rfl
      go_simp
      exact UponT.value ⟨rfl, Since.refl _⟩
    (try simp only [Act.put, List.setIfInBounds_toArray, List.set_cons_zero, List.set_cons_succ])
    intro wz hz hi
    obtain rfl : v21 = .bool true := hi.all 21 v21 _ _ rfl
    go_wp2
    go_ret
    refine ⟨rfl, ?_, ?_, HB0.out.drew.trans (hz.below.mono HBa.out)⟩
    · rw [HDS.out]; exact HM0.out.sinceD hz
    · rw [HDS.out]; exact ⟨_, HR0.out.below ((Below.refl wa.heap.size wa).drew.trans hz.below)⟩
  have e8 : (d == 8) = false := by rw [beq_eq_false_iff_ne]; omega
  clear h6 h7 h8
  go_wp2_with fail
  go_ret
  refine ⟨rfl, ?_, ?_, HB0.out⟩
  · rw [HDS.out]; exact HM0.out
  · rw [HDS.out]; exact ⟨_, HR0.out⟩

end Go.Proofs.Ytlkapaecaeldpaa
