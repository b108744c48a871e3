/-
  Package nand: Read.
-/
import Derived.Test.YtlkapaecaeldpaaNandF
set_option linter.unusedVariables false
set_option linter.unusedSimpArgs false
set_option maxRecDepth 16384
namespace Go.Proofs.Ytlkapaecaeldpaa
open Go.RowKit Go.Maps

/-- 'v, ok := m[k]', with what is told where there is none -/
theorem wpList_look_z {P : Program} (w : World) {ops : Array Oper} {rest : List Oper} {o : Oper} {a : Act} {Q : Exit → Act → World → Prop} (hg : o.guard = none) (m x : Operand) (t : TypeId) (hop : o.op = Op.lookup t m x true)
    (k e : TypeId) (K : Keyed P k) (hk : P.underlying k = some (.int .i64)) (ht : P.underlying t = some (.map k e)) {z : Value} (hz : (zeroValue e).run P w = .ok z w) (b N : Nat) (f : Nat → Option Value)
    (hm : a.eval m = .map (some b)) (hmap : MapIs P w k b N f) (i : Nat) (hi : i ≤ 9223372036854775807) (hx : a.eval x = .int .i64 (i : Int))
    (hK : wpList P ops Q rest (a.put o.dst (.tuple #[(f i).getD z, .bool (f i).isSome])) w) :
    wpList P ops Q (o :: rest) a w := by
  obtain ⟨D, ho, hl⟩ := hmap.look K
  have hwf : (Lit.int .i64 (i : Int)).wf = true := by
    have hmin : IntKind.i64.min = -9223372036854775808 := rfl
    have hmax : IntKind.i64.max = 9223372036854775807 := rfl
    simp only [Lit.wf, Bool.and_eq_true, decide_eq_true_eq]
    omega
  refine wpList_lookup_own_ok w hg m x t hop k e K ht heldR hz (.held z) [] rfl b N D hm ho _ (.int .i64 i) hx (keyOf_int_mk hk hwf) fun v ps hv => ?_
  have h2 := hl i
  have h3 : D.atKey (.int .i64 i) (.held z) = .held v := by
    unfold heldR at hv
    injection hv with hv
    injection hv with hv _
    exact hv.symm
  cases hf : f i with
  | some u =>
    rw [hf] at h2 hK
    obtain ⟨h4, h5⟩ := h2
    rw [h5 (.held z)] at h3
    injection h3 with h3
    rw [h4, ← h3]
    exact hK
  | none =>
    rw [hf] at h2 hK
    rw [show Maps.has D (.int .i64 i) = false from h2]
    rw [Maps.atKey_of_not_has (show Maps.has D (.int .i64 i) = false from h2)] at h3
    injection h3 with h3
    rw [← h3]
    exact hK

/-- what Read tells -/
def readOf (g : Geo) (S : NSt) (a : Int) : List Int × List Int × Int :=
  if S.off = true then ([], [], 5)
  else if 0 ≤ a ∧ a < g.all then
    match S.sec a.toNat with
    | some p => (p.1, p.2, 0)
    | none => ([], [], 6)
  else ([], [], 2)

/-- how a Read ends -/
def ReadPost (t : TypeId) (w : World) (r : List Int × List Int × Int) (e : Ending) (w' : World) : Prop :=
  ∃ va vb, e = .returned (.tuple #[va, vb, .int .i64 r.2.2]) ∧ w'.ownsRow w.heap.size t 1 va r.1.length (bv r.1) ∧ w'.ownsRow w.heap.size t 1 vb r.2.1.length (bv r.2.1) ∧ Below w.heap.size w w'

theorem ReadPost.no {t : TypeId} {w w' : World} {x : Int} (hb : Below w.heap.size w w') : ReadPost t w ([], [], x) (.returned (.tuple #[.slice none 0 0, .slice none 0 0, .int .i64 x])) w' :=
  ⟨_, _, rfl, World.ownsRow_nil _ _ _ _, World.ownsRow_nil _ _ _ _, hb⟩

/-- what is known within the making of two copies -/
def ReadJ (base : Nat) (xs ys : List Int) (i : Nat) (v : Value) (lo hi : Nat) (w : World) : Prop :=
  match i with
  | 0 => ∃ g, v = .slice (some ⟨g, 0, none⟩) 0 0 ∧ base ≤ g ∧ Blk w g 5 []
  | 3 => w.ownsRow base 5 1 v xs.length (bv xs)
  | 4 => ∃ g, v = .slice (some ⟨g, 0, none⟩) 0 0 ∧ base ≤ g ∧ Blk w g 5 []
  | 7 => w.ownsRow base 5 1 v ys.length (bv ys)
  | 8 => w.ownsRow base 5 1 v xs.length (bv xs)
  | 9 => w.ownsRow base 5 1 v ys.length (bv ys)
  | _ => True
theorem ReadJ.keep {base : Nat} {xs ys : List Int} (i : Nat) (v : Value) (lo hi : Nat) (w w' : World) (h : ReadJ base xs ys i v lo hi w) (hs : Since w w') : ReadJ base xs ys i v lo hi w' := by
  unfold ReadJ at *
  split at h
  · obtain ⟨g, h1, h2, h3⟩ := h; exact ⟨g, h1, h2, h3.below hs⟩
  · exact own_below h hs
  · obtain ⟨g, h1, h2, h3⟩ := h; exact ⟨g, h1, h2, h3.below hs⟩
  · exact own_below h hs
  · exact own_below h hs
  · exact own_below h hs
  · trivial

theorem zero_sector (w : World) : (zeroValue 134).run Try.prog w = .ok (.agg #[.slice none 0 0, .slice none 0 0]) w := by kernel_rfl

theorem own_mono {w : World} {B B' : Nat} {t : TypeId} {sz n : Nat} {v : Value} {xs : List Value} (h : w.ownsRow B t sz v n xs) (hB : B' ≤ B) : w.ownsRow B' t sz v n xs := by
  obtain ⟨h1, h2⟩ := h
  refine ⟨h1, ?_⟩
  rcases h2 with h2 | ⟨b, cap, cur, h3, h4, h5⟩
  · exact .inl h2
  · exact .inr ⟨b, cap, cur, h3, Nat.le_trans hB h4, h5⟩

set_option maxHeartbeats 2000000 in
theorem nandRead_any {w : World} {F : Nat → Prop} {d : Nat} {g : Geo} {S : NSt} (H : NandAt w F d g S) (a : Int) :
    Calls Try.prog 24 #[.pointer (some ⟨d, 0, none⟩), .int .i64 a] w fun e w' => ReadPost 5 w (readOf g S a) e w' := by
  obtain ⟨pb, bb, mb, lv, f, H⟩ := H
  have HH := Lib.hid H
  have HR : Hid (readOf g S a = (if S.off = true then ([], [], 5) else if 0 ≤ a ∧ a < g.all then (match S.sec a.toNat with | some p => (p.1, p.2, 0) | none => ([], [], 6)) else ([], [], 2) : List Int × List Int × Int)) := Lib.hid rfl
  obtain ⟨R, hR⟩ : ∃ R, readOf g S a = R := ⟨_, rfl⟩
  rw [hR] at HR
  rw [hR]
  clear hR
  have HA : Hid (∀ wy, Calls Try.prog 80 #[g.v] wy fun e w' => e = .returned (.int .i64 g.all) ∧ Below wy.heap.size wy w') := by
    intro wy
    have := geomAll_any g wy (Geo.ok_of H.ok).wf
    unfold Geo.allI at this
    rwa [if_pos H.ok] at this
  have hgo := Geo.ok_of H.ok
  have hA9 : g.all ≤ 65536 := by
    obtain ⟨m1, m2, m3, m4, m5', m6, m7, m8, m9, m10⟩ := geo_mul hgo.c.1 hgo.c.2 hgo.l.1 hgo.l.2 hgo.b.1 hgo.b.2 hgo.p.1 hgo.p.2 hgo.s.1 hgo.s.2
    exact m8
  obtain ⟨A, hAA⟩ : ∃ A, g.all = A := ⟨_, rfl⟩
  have HAE := Lib.hid hAA
  rw [hAA] at HA HR hA9
  obtain ⟨c, l, b, p, s⟩ := g
  have hdb := H.blk; have n0 : w.cell? ⟨d, 0, none⟩ = some (.bool S.off) := hdb.cell 0; have n1 : w.cell? ⟨d, 1, none⟩ = some (.int .i64 c) := hdb.cell 1; have n2 : w.cell? ⟨d, 2, none⟩ = some (.int .i64 l) := hdb.cell 2; have n3 : w.cell? ⟨d, 3, none⟩ = some (.int .i64 b) := hdb.cell 3; have n4 : w.cell? ⟨d, 4, none⟩ = some (.int .i64 p) := hdb.cell 4; have n5 : w.cell? ⟨d, 5, none⟩ = some (.int .i64 s) := hdb.cell 5; have n6 : w.cell? ⟨d, 6, none⟩ = some (.pointer (some ⟨pb, 0, none⟩)) := hdb.cell 6; have n7 : w.cell? ⟨d, 7, none⟩ = some (.slice (some ⟨bb, 0, none⟩) (Geo.nb ⟨c, l, b, p, s⟩) (Geo.nb ⟨c, l, b, p, s⟩)) := hdb.cell 7; have n8 : w.cell? ⟨d, 8, none⟩ = some (.map (some mb)) := hdb.cell 8; have n9 : w.cell? ⟨d, 9, none⟩ = some (.int .i64 S.wrong) := hdb.cell 9; have nlt := hdb.lt; clear hdb
  unfold Geo.v at HA
  clear H hgo hAA
  obtain ⟨O, hO⟩ : ∃ O, S.off = O := ⟨_, rfl⟩
  rw [hO] at n0
  by_cases hoff : O = true
  · subst hoff
    have HRX : Hid (R = ([], [], 5)) := by show _ = _; rw [HR.out, if_pos hO]
    clear hO
    go_enter Try.func24, Try.ntmps24
    go_wp2_with fail
    refine bodyPost_ret (v := .tuple #[.slice none 0 0, .slice none 0 0, .int .i64 5]) (by simp [results, Try.results24, go_sem]) rfl ?_
    rw [HRX.out]
    exact ReadPost.no (Below.refl _ _)
  obtain rfl : O = false := by simpa using hoff
  have hr2 := HR.out
  rw [if_neg (by rw [hO]; decide)] at hr2
  have HR2 := Lib.hid hr2
  clear hO hoff HR hr2
  go_enter Try.func24, Try.ntmps24
  by_cases h0 : a < 0
  · have HRX : Hid (R = ([], [], 2)) := by show _ = _; rw [HR2.out, if_neg (by omega)]
    go_wp2_with fail
    refine bodyPost_ret (v := .tuple #[.slice none 0 0, .slice none 0 0, .int .i64 2]) (by simp [results, Try.results24, go_sem]) rfl ?_
    rw [HRX.out]
    exact ReadPost.no (Below.refl _ _)
  (go_wp2_with fail); refine (HA.out _).mono ?_
  rintro e w1 ⟨rfl, hb⟩
  have h1 := HH.out.below hb
  have H1 := Lib.hid h1
  have HB1 := Lib.hid hb
  clear n0 n1 n2 n3 n4 n5 n6 n7 n8 n9
  have hdb := h1.blk; have n0 : w1.cell? ⟨d, 0, none⟩ = some (.bool S.off) := hdb.cell 0; have n1 : w1.cell? ⟨d, 1, none⟩ = some (.int .i64 c) := hdb.cell 1; have n2 : w1.cell? ⟨d, 2, none⟩ = some (.int .i64 l) := hdb.cell 2; have n3 : w1.cell? ⟨d, 3, none⟩ = some (.int .i64 b) := hdb.cell 3; have n4 : w1.cell? ⟨d, 4, none⟩ = some (.int .i64 p) := hdb.cell 4; have n5 : w1.cell? ⟨d, 5, none⟩ = some (.int .i64 s) := hdb.cell 5; have n6 : w1.cell? ⟨d, 6, none⟩ = some (.pointer (some ⟨pb, 0, none⟩)) := hdb.cell 6; have n7 : w1.cell? ⟨d, 7, none⟩ = some (.slice (some ⟨bb, 0, none⟩) (Geo.nb ⟨c, l, b, p, s⟩) (Geo.nb ⟨c, l, b, p, s⟩)) := hdb.cell 7; have n8 : w1.cell? ⟨d, 8, none⟩ = some (.map (some mb)) := hdb.cell 8; have n9 : w1.cell? ⟨d, 9, none⟩ = some (.int .i64 S.wrong) := hdb.cell 9; have nlt := hdb.lt; clear hdb
  clear hb h1
  by_cases h9 : A ≤ a
  · have HRX : Hid (R = ([], [], 2)) := by show _ = _; rw [HR2.out, if_neg (by omega)]
    go_wp2_with fail
    refine bodyPost_ret (v := .tuple #[.slice none 0 0, .slice none 0 0, .int .i64 2]) (by simp [results, Try.results24, go_sem]) rfl ?_
    rw [HRX.out]
    exact ReadPost.no HB1.out
  obtain ⟨i, rfl⟩ : ∃ i : Nat, a = i := ⟨a.toNat, by omega⟩
  have hr3 := HR2.out
  rw [if_pos ⟨by omega, by omega⟩, Int.toNat_natCast] at hr3
  have hsec := H1.out.secs i
  have HSEC := Lib.hid hsec
  cases hs : S.sec i with
  | none =>
    rw [hs] at hsec hr3
    have HFI : Hid (f i = none) := hsec
    have HRX : Hid (R = ([], [], 6)) := hr3
    have HB2 : Hid (Below w.heap.size w (w1.alloc (.cells #[.slice none 0 0, .slice none 0 0] 134))) := Lib.hid (HB1.out.alloc HB1.out.size _)
    clear hs hsec hr3
    go_wp2_with (first | (at_lookup; go_must (refine wpList_look_z w1 rfl (.tmp 29) (.tmp 30) 60 rfl 3 134 keyed_int Try.underlying3 Try.underlying60 (zero_sector w1) mb _ f rfl H1.out.map i (by omega) rfl ?_); rw [HFI.out]; simp only [Option.getD_none, Option.isSome_none]))
    refine bodyPost_ret (v := .tuple #[.slice none 0 0, .slice none 0 0, .int .i64 6]) (by simp [results, Try.results24, go_sem]) rfl ?_
    rw [HRX.out]
    exact ReadPost.no HB2.out
  | some q =>
    rw [hs] at hsec hr3
    obtain ⟨vx, vy, hfi, hx, hy⟩ := hsec
    have HRX : Hid (R = (q.1, q.2, 0)) := hr3
    obtain ⟨xs, ys⟩ := q
    simp only at hx hy HRX
    have hx1 := hx.sl
    have hy1 := hy.sl
    obtain ⟨xa, xc, rfl, _, hxl, _⟩ := id hx1
    obtain ⟨ya, yc, rfl, _, hyl, _⟩ := id hy1
    simp only [bv_length] at hxl hyl hx1 hy1 hfi
    have hbx : Below w1.heap.size w1 (w1.alloc (.cells #[.slice xa xs.length xc, .slice ya ys.length yc] 134)) := (Below.refl _ _).alloc (Nat.le_refl _) _
    have HX1 := Lib.hid (hx1.below hbx)
    have HY1 := Lib.hid (hy1.below hbx)
    have HB2 := Lib.hid (HB1.out.trans (hbx.mono HB1.out.size))
    have HK2 := Lib.hid (Blk.new w1 134 [.slice xa xs.length xc, .slice ya ys.length yc])
    have HFI := Lib.hid hfi
    clear hs hr3 hfi hx hy hx1 hy1 hbx
    obtain ⟨i0, hif, hz0, hz1, hz2⟩ := info_parts info_u8
    go_wp2_with (first | (at_lookup; go_must (refine wpList_look_z w1 rfl (.tmp 29) (.tmp 30) 60 rfl 3 134 keyed_int Try.underlying3 Try.underlying60 (zero_sector w1) mb _ f rfl H1.out.map i (by omega) rfl ?_); rw [HFI.out]; simp only [Option.getD_some, Option.isSome_some]))
    generalize hkb : w1.heap.size = kb at HK2 ⊢
    generalize hw2 : w1.alloc (.cells #[.slice xa xs.length xc, .slice ya ys.length yc] 134) = w2 at HX1 HY1 HB2 HK2 ⊢
    have k0 : w2.cell? ⟨kb, 0, none⟩ = some (.slice xa xs.length xc) := HK2.out.cell 0
    have k1 : w2.cell? ⟨kb, 1, none⟩ = some (.slice ya ys.length yc) := HK2.out.cell 1
    have hkl := HK2.out.lt
    have hw2s := HB2.out.size
    clear hw2 hkb
    refine wp_region_t 10 [(0, []), (3, [0]), (4, []), (7, [4]), (8, [3]), (9, [7])] 11 (ReadJ w2.drew.heap.size xs ys) [undef, ?_, ?_, undef, undef, ?_, ?_, undef, undef, undef] (by kernel_rfl) (by kernel_rfl) (by kernel_rfl) ReadJ.keep ?_
    rotate_left 4
    simp only [List.take_succ_cons, List.take_zero, List.drop_succ_cons, List.drop_zero]
    refine SeqT.tie rfl (by decide) rfl (fun wz hz hd => ?_) (fun v0 _ _ => ?_)
    · clear hd
      go_simp
      exact UponT.value ⟨⟨wz.heap.size, rfl, hz.below.size, Blk.new wz 5 []⟩, (Below.refl _ _).alloc (Nat.le_refl _) _⟩
    (try simp only [Act.put, List.setIfInBounds_toArray, List.set_cons_zero, List.set_cons_succ])
    refine SeqT.run (v := ?_) rfl rfl (fun _ wz hz => ?_) ?_ ?_; rotate_left; (have hzc := hz.cell; have hzf := hz.frozen; go_simp; first | exact UponS.value (Since.refl _) | exact UponS.skip (Since.refl _)); (exact rfl); (try simp only [Act.put, List.setIfInBounds_toArray, List.set_cons_zero, List.set_cons_succ])
    refine SeqT.run (v := ?_) rfl rfl (fun _ wz hz => ?_) ?_ ?_; rotate_left; (have hzc := hz.cell; have hzf := hz.frozen; go_simp; first | exact UponS.value (Since.refl _) | exact UponS.skip (Since.refl _)); (exact rfl); (try simp only [Act.put, List.setIfInBounds_toArray, List.set_cons_zero, List.set_cons_succ])
    refine SeqT.tie rfl (by decide) rfl (fun wz hz hd => ?_) (fun v3 _ _ => ?_)
    · obtain ⟨g0, rfl, hg0, hk0'⟩ := hd.all 0 (by decide) v0 _ _ rfl
      obtain ⟨v', w', hr, ho, hs⟩ := run_append_fresh (P := Try.prog) w2.drew.heap.size 45 45 5 _ (.int .u8 0) 1 Try.underlying45 hif hz0 hz1 hz2 rfl g0 hg0 hz.below.size hk0' 0 (.slice xa xs.length xc) (bv xs) (HX1.out.below ((Below.refl w2.heap.size w2).drew.trans hz.below)) (by rw [bv_length]; unfold maxLen; omega) (by rw [bv_length]; omega)
      rw [bv_length] at ho
      exact UponT.append _ _ _ _ _ _ rfl rfl rfl hr ⟨ho, hs⟩
    (try simp only [Act.put, List.setIfInBounds_toArray, List.set_cons_zero, List.set_cons_succ])
    refine SeqT.tie rfl (by decide) rfl (fun wz hz hd => ?_) (fun v4 _ _ => ?_)
    · clear hd
      go_simp
      exact UponT.value ⟨⟨wz.heap.size, rfl, hz.below.size, Blk.new wz 5 []⟩, (Below.refl _ _).alloc (Nat.le_refl _) _⟩
    (try simp only [Act.put, List.setIfInBounds_toArray, List.set_cons_zero, List.set_cons_succ])
    refine SeqT.run (v := ?_) rfl rfl (fun _ wz hz => ?_) ?_ ?_; rotate_left; (have hzc := hz.cell; have hzf := hz.frozen; go_simp; first | exact UponS.value (Since.refl _) | exact UponS.skip (Since.refl _)); (exact rfl); (try simp only [Act.put, List.setIfInBounds_toArray, List.set_cons_zero, List.set_cons_succ])
    refine SeqT.run (v := ?_) rfl rfl (fun _ wz hz => ?_) ?_ ?_; rotate_left; (have hzc := hz.cell; have hzf := hz.frozen; go_simp; first | exact UponS.value (Since.refl _) | exact UponS.skip (Since.refl _)); (exact rfl); (try simp only [Act.put, List.setIfInBounds_toArray, List.set_cons_zero, List.set_cons_succ])
    refine SeqT.tie rfl (by decide) rfl (fun wz hz hd => ?_) (fun v7 _ _ => ?_)
    · obtain ⟨g0, rfl, hg0, hk0'⟩ := hd.all 4 (by decide) v4 _ _ rfl
      obtain ⟨v', w', hr, ho, hs⟩ := run_append_fresh (P := Try.prog) w2.drew.heap.size 45 45 5 _ (.int .u8 0) 1 Try.underlying45 hif hz0 hz1 hz2 rfl g0 hg0 hz.below.size hk0' 0 (.slice ya ys.length yc) (bv ys) (HY1.out.below ((Below.refl w2.heap.size w2).drew.trans hz.below)) (by rw [bv_length]; unfold maxLen; omega) (by rw [bv_length]; omega)
      rw [bv_length] at ho
      exact UponT.append _ _ _ _ _ _ rfl rfl rfl hr ⟨ho, hs⟩
    (try simp only [Act.put, List.setIfInBounds_toArray, List.set_cons_zero, List.set_cons_succ])
    refine SeqT.tie rfl (by decide) rfl (fun wz hz hd => ?_) (fun v8 _ _ => ?_)
    · have h3 : wz.ownsRow w2.drew.heap.size 5 1 v3 xs.length (bv xs) := hd.all 3 (by decide) v3 _ _ rfl
      clear hd
      go_simp
      exact UponT.value ⟨h3, Since.refl _⟩
    (try simp only [Act.put, List.setIfInBounds_toArray, List.set_cons_zero, List.set_cons_succ])
    refine SeqT.tie rfl (by decide) rfl (fun wz hz hd => ?_) (fun v9 _ _ => ?_)
    · have h3 : wz.ownsRow w2.drew.heap.size 5 1 v7 ys.length (bv ys) := hd.all 7 (by decide) v7 _ _ rfl
      clear hd
      go_simp
      exact UponT.value ⟨h3, Since.refl _⟩
    (try simp only [Act.put, List.setIfInBounds_toArray, List.set_cons_zero, List.set_cons_succ])
    intro wz hz hi
    have h8 : wz.ownsRow w2.drew.heap.size 5 1 v8 xs.length (bv xs) := hi.all 8 v8 _ _ rfl
    have h9' : wz.ownsRow w2.drew.heap.size 5 1 v9 ys.length (bv ys) := hi.all 9 v9 _ _ rfl
    have HFIN : Hid (ReadPost 5 w R (.returned (.tuple #[v8, v9, .int .i64 0])) wz) := by
      show ReadPost _ _ _ _ _
      rw [HRX.out]
      exact ⟨v8, v9, rfl, own_mono h8 hw2s, own_mono h9' hw2s, HB2.out.drew.trans (hz.below.mono hw2s)⟩
    clear hz hi h8 h9'
    go_wp2
    refine bodyPost_ret (v := .tuple #[v8, v9, .int .i64 0]) (by simp [results, Try.results24, go_sem]) rfl ?_
    exact HFIN.out

end Go.Proofs.Ytlkapaecaeldpaa
