/-
  Package l2p: put.
-/
import Derived.Test.YtlkapaecaeldpaaL2pW
set_option linter.unusedVariables false
set_option linter.unusedSimpArgs false
set_option maxRecDepth 16384
namespace Go.Proofs.Ytlkapaecaeldpaa
open Go.RowKit

theorem MapRaw.drew {w : World} {B C m : Nat} {g : Geo} {N A kt kw vb : Nat} {st sw : Shards} {fT : Nat → Nat → Value} {fW fV : Nat → Value} (h : MapRaw w B C m g N A kt kw vb st sw fT fW fV) : MapRaw w.drew B C m g N A kt kw vb st sw fT fW fV :=
  h.below ((Below.refl w.heap.size w).drew)
theorem MapRaw.since {w w' : World} {B C m : Nat} {g : Geo} {N A kt kw vb : Nat} {st sw : Shards} {fT : Nat → Nat → Value} {fW fV : Nat → Value} (h : MapRaw w B C m g N A kt kw vb st sw fT fW fV) (hz : Since w.drew w') : MapRaw w' B C m g N A kt kw vb st sw fT fW fV :=
  h.drew.below hz.below
theorem Only.since {B C : Nat} {w0 w w' : World} (h : Only B C w0 w) (hz : Since w.drew w') : Only B C w0 w' := h.drew.step hz.below
theorem Blk.since {w w' : World} {g : Nat} {t : TypeId} {xs : List Value} (h : Blk w g t xs) (hz : Since w.drew w') : Blk w' g t xs := h.drew.below hz.below

/-- what a map's cells are when the old address is left: all but the new address and line -/
structure PutMid (g : Geo) (to : List Ent) (i : Nat) (e : Ent) (bl A : Nat) (fW fV : Nat → Value) : Prop where
  who : ∀ a, a < A → (a : Int) ≠ e.a → fW a = .int .i64 (whoIx (to.set i e) a : Nat)
  val : ∀ l, l < bl → ∃ V : Int, fV l = .int .i64 V ∧ V + (if e.a / g.line = l then 1 else 0) = (validN g.line (to.set i e) l : Nat)

theorem putMid_new {g : Geo} {to : List Ent} {i : Nat} {e old : Ent} {bl A : Nat} (hf : Fine g to) (hi : to[i]? = some old) (he : 0 ≤ e.a ∧ e.a < g.all) (ho : whoIx to e.a = 0 ∨ whoIx to e.a = i + 1) (hold : ¬ 0 ≤ old.a) :
    PutMid g to i e bl A (fun a => .int .i64 (whoIx to a : Nat)) (fun l => .int .i64 (validN g.line to l : Nat)) := by
  refine ⟨fun a ha hne => ?_, fun l hl => ⟨_, rfl, ?_⟩⟩
  · rw [whoIx_set hf hi he ho a (by omega), if_neg hne, if_neg (by omega)]
  · have := validN_set (line := g.line) (e := e) hi l
    rw [if_neg (fun h => hold h.1)] at this
    simp only [he.1, true_and] at this
    split at this <;> rename_i h
    · rw [if_pos h]; omega
    · rw [if_neg h]; omega

theorem putMid_old {g : Geo} {to : List Ent} {i : Nat} {e old : Ent} {bl A oa lo : Nat} (hf : Fine g to) (hi : to[i]? = some old) (he : 0 ≤ e.a ∧ e.a < g.all) (ho : whoIx to e.a = 0 ∨ whoIx to e.a = i + 1) (hold : old.a = oa) (hlo : (oa : Int) / g.line = lo) :
    PutMid g to i e bl A (fun a => if a = oa then .int .i64 0 else .int .i64 (whoIx to a : Nat)) (fun l => if l = lo then .int .i64 ((validN g.line to lo : Nat) - 1) else .int .i64 (validN g.line to l : Nat)) := by
  refine ⟨fun a ha hne => ?_, fun l hl => ?_⟩
  · rw [whoIx_set hf hi he ho a (by omega), if_neg hne, hold]
    by_cases h : a = oa
    · rw [if_pos h, if_pos (by omega)]; rfl
    · rw [if_neg h, if_neg (by omega)]
  · have h1 := validN_set (line := g.line) (e := e) hi l
    rw [hold] at h1
    simp only [he.1, true_and, show (0 : Int) ≤ oa by omega, hlo] at h1
    by_cases h : l = lo
    · subst h
      have h2 := validN_pos (line := g.line) hi (l := l) ⟨by omega, by rw [hold]; exact hlo⟩
      refine ⟨_, if_pos rfl, ?_⟩
      rw [if_pos rfl] at h1
      split at h1 <;> rename_i h3
      · rw [if_pos h3]; omega
      · rw [if_neg h3]; omega
    · refine ⟨_, if_neg h, ?_⟩
      rw [if_neg (fun e => h (by omega))] at h1
      split at h1 <;> rename_i h3
      · rw [if_pos h3]; omega
      · rw [if_neg h3]; omega

theorem PutMid.done {w : World} {B C m : Nat} {g : Geo} {to : List Ent} {i : Nat} {e old : Ent} {kt kw vb ea le : Nat} {st sw : Shards} {fT0 : Nat → Nat → Value} {fW fV : Nat → Value} {V : Int} (hT : fT0 = fun i j => (to.getD i Ent.none).cell j) (hok : g.okB = true) (hlen : to.length ≤ 4096) (hf : Fine g to) (hi : to[i]? = some old) (he : 0 ≤ e.a ∧ e.a < g.all) (ho : whoIx to e.a = 0 ∨ whoIx to e.a = i + 1)
    (hm : PutMid g to i e g.blocks.toNat g.all.toNat fW fV) (hea : e.a = ea) (hle : (ea : Int) / g.line = le) (hV : fV le = .int .i64 V)
    (h : MapRaw w B C m g to.length g.all.toNat kt kw vb st sw (fun i' j' => if i' = i ∧ j' = 2 then .int .i64 e.k else if i' = i ∧ j' = 1 then .int .i64 e.s else if i' = i ∧ j' = 0 then .int .i64 e.a else fT0 i' j') (fun a => if a = ea then .int .i64 ((i : Int) + 1) else fW a) (fun l => if l = le then .int .i64 (V + 1) else fV l)) :
    MapAt w B C m g (to.set i e) kt kw vb st sw := by
  subst hT
  have hlt := (List.getElem?_eq_some_iff.1 hi).1
  refine ⟨?_, by rw [List.length_set]; exact hlen, hok, fine_set hf hlt (.inr he) (fun _ => ho)⟩
  rw [List.length_set]
  refine h.funs (fun i' j' hi' hj' => ?_) (fun a ha => ?_) (fun l hl => ?_)
  · by_cases h1 : i' = i
    · subst h1
      rw [List.getD_eq_getElem?_getD, List.getElem?_set, if_pos rfl, if_pos hlt]
      rcases (show j' = 0 ∨ j' = 1 ∨ j' = 2 by omega) with rfl | rfl | rfl <;> simp [Ent.cell]
    · rw [List.getD_eq_getElem?_getD, List.getElem?_set, if_neg (fun e => h1 e.symm), if_neg (fun e => h1 e.1), if_neg (fun e => h1 e.1), if_neg (fun e => h1 e.1)]
      simp only [List.getD_eq_getElem?_getD]
  · by_cases h1 : a = ea
    · rw [if_pos h1, whoIx_set hf hi he ho a (by omega), if_pos (by omega)]; rfl
    · rw [if_neg h1, hm.who a ha (by omega)]
  · obtain ⟨V', h1, h2⟩ := hm.val l hl
    rw [hea, hle] at h2
    by_cases h3 : l = le
    · subst h3
      rw [hV] at h1
      obtain rfl : V = V' := by injection h1
      rw [if_pos rfl] at h2 ⊢
      rw [← h2]
    · rw [if_neg (by omega)] at h2
      rw [if_neg h3, h1, ← h2, Int.add_zero]

set_option maxHeartbeats 4000000 in
theorem mapPut_any {w : World} {B C m : Nat} {g : Geo} {to : List Ent} {kt kw vb : Nat} {st sw : Shards} (HM : MapAt w B C m g to kt kw vb st sw) (i : Nat) (e old : Ent) (hi : to[i]? = some old) (he : 0 ≤ e.a ∧ e.a < g.all) (ho : whoIx to e.a = 0 ∨ whoIx to e.a = i + 1) :
    Calls Try.prog 87 #[.pointer (some ⟨m, 0, none⟩), .int .i64 i, e.v] w fun r w' => r = .returned (.tuple #[]) ∧ MapAt w' B C m g (to.set i e) kt kw vb st sw ∧ Only B C w w' := by
  have hlt := (List.getElem?_eq_some_iff.1 hi).1
  have hlen := HM.len
  have hold := HM.fine.in_ old (List.mem_of_getElem? hi)
  have hA : g.all ≤ 65536 := by
    have hg := Geo.ok_of HM.ok
    obtain ⟨m1, m2, m3, m4, m5, m6, m7, m8, m9, m10⟩ := geo_mul hg.c.1 hg.c.2 hg.l.1 hg.l.2 hg.b.1 hg.b.2 hg.p.1 hg.p.2 hg.s.1 hg.s.2
    exact m8
  obtain ⟨A, hAA⟩ : ∃ A, g.all.toNat = A := ⟨_, rfl⟩
  obtain ⟨ea, hea⟩ : ∃ ea : Nat, e.a = ea := ⟨e.a.toNat, by omega⟩
  have heA : ea < A := by omega
  have hal := Geo.addr_line HM.ok he.1 he.2
  obtain ⟨L, hL⟩ : ∃ L : Nat, g.line = L := ⟨g.line.toNat, by omega⟩
  obtain ⟨le, hle⟩ : ∃ le : Nat, (ea : Int) / g.line = le := ⟨((ea : Int) / g.line).toNat, by rw [hea] at hal; omega⟩
  have hleb : le < g.blocks.toNat := by rw [hea, hle] at hal; omega
  have hL1 : 1 ≤ L ∧ L ≤ 1024 := by omega
  have hN9 : to.length ≤ 1000000 := by omega
  have hb64 : g.blocks ≤ 64 := (Geo.ok_of HM.ok).b.2
  have HLN : Hid (∀ wy, Calls Try.prog 40 #[g.v] wy fun e w' => e = .returned (.int .i64 L) ∧ Below wy.heap.size wy w') := by
    intro wy
    have := geomLine_ok g HM.ok wy
    rwa [hL] at this
  obtain ⟨fT0, hfT⟩ : ∃ f, f = (fun i j => (to.getD i Ent.none).cell j) := ⟨_, rfl⟩
  have HDONE := Lib.hid (fun (w : World) (fW fV : Nat → Value) (V : Int) hm hV h => PutMid.done (w := w) (B := B) (C := C) (m := m) (kt := kt) (kw := kw) (vb := vb) (st := st) (sw := sw) (fW := fW) (fV := fV) (V := V) hfT HM.ok HM.len HM.fine hi he ho hm hea hle hV h)
  rw [hAA] at HDONE
  have HATE : Hid (∀ wy fT fW fV, MapRaw wy B C m g to.length A kt kw vb st sw fT fW fV → Calls Try.prog 88 #[.pointer (some ⟨kt, 0, none⟩), .int .i64 i] wy fun e w' => e = .returned (.pointer (some ⟨st.b (i % 4), i / 4 * 3, none⟩)) ∧ wy = w') :=
    fun wy fT fW fV h => atEntry_any kt st _ _ i _ h.tos hlt hN9
  have HATW : Hid (∀ (a : Nat) wy fT fW fV, a < A → MapRaw wy B C m g to.length A kt kw vb st sw fT fW fV → Calls Try.prog 89 #[.pointer (some ⟨kw, 0, none⟩), .int .i64 a] wy fun e w' => e = .returned (.pointer (some ⟨sw.b (a % 4), a / 4, none⟩)) ∧ wy = w') :=
    fun a wy fT fW fV ha h => atInt_any kw sw _ _ a _ h.whos ha (by omega)
  have HMN := Lib.hid (fun (h : ¬ 0 ≤ old.a) => putMid_new (bl := g.blocks.toNat) (A := g.all.toNat) HM.fine hi he ho h)
  have HMO := Lib.hid (fun (oa lo : Nat) (h : old.a = oa) (h2 : (oa : Int) / g.line = lo) => putMid_old (bl := g.blocks.toNat) (A := g.all.toNat) HM.fine hi he ho h h2)
  have HPOS : Hid (∀ lo : Nat, 0 ≤ old.a → old.a / g.line = lo → 0 < validN g.line to lo) := fun lo h1 h2 => validN_pos hi ⟨h1, h2⟩
  have HOL : Hid (0 ≤ old.a → 0 ≤ old.a / g.line ∧ old.a / g.line < g.blocks ∧ old.a < (A : Int)) := fun h => by
    have h2 : old.a < g.all := by omega
    have := Geo.addr_line HM.ok h h2
    exact ⟨this.2.2.1, this.2.2.2, by omega⟩
  have HVL : Hid (∀ l, validN g.line to l ≤ 4096 ∧ validN g.line (to.set i e) l ≤ 4096) := fun l => ⟨Nat.le_trans (validN_le _ _ _) hlen, Nat.le_trans (validN_le _ _ _) (by rw [List.length_set]; exact hlen)⟩
  have hR := HM.raw
  rw [hAA] at hR
  rw [hAA] at HMN HMO
  have hto0 : (to.getD i Ent.none) = old := by rw [List.getD_eq_getElem?_getD, hi]; rfl
  have hE0 : Blk (w.alloc (.cells #[.int .i64 e.a, .int .i64 e.s, .int .i64 e.k] 32)) w.heap.size 32 [.int .i64 e.a, .int .i64 e.s, .int .i64 e.k] := Blk.new w _ [_, _, _]
  have hCW : C ≤ w.heap.size := hR.top
  have hb0 : Below w.heap.size w (w.alloc (.cells #[.int .i64 e.a, .int .i64 e.s, .int .i64 e.k] 32)) := (Below.refl w.heap.size w).alloc (Nat.le_refl _) _
  have HR0 := Lib.hid (hR.below hb0)
  have HRw := Lib.hid hR
  have HO0 := Lib.hid (Only.of_below (B := B) (C := C) hb0)
  have HE := Lib.hid hE0
  have HFT := Lib.hid hfT
  have HF0 : Hid (fT0 i 0 = .int .i64 old.a ∧ fT0 i 1 = .int .i64 old.s ∧ fT0 i 2 = .int .i64 old.k) := by
    show _ ∧ _ ∧ _
    rw [hfT]; simp only [hto0]; exact ⟨rfl, rfl, rfl⟩
  rw [← hfT] at HR0 HRw
  clear hR hto0 hE0 hb0 HM hfT hAA hA
  obtain ⟨bo, hbo⟩ : ∃ b, st.b (i % 4) = b := ⟨_, rfl⟩
  obtain ⟨oo, hoo⟩ : ∃ b, i / 4 * 3 = b := ⟨_, rfl⟩
  have HBO := Lib.hid (And.intro hbo hoo)
  rw [hbo, hoo] at HATE
  obtain ⟨be, hbe⟩ : ∃ b, sw.b (ea % 4) = b := ⟨_, rfl⟩
  obtain ⟨oe, hoe⟩ : ∃ b, ea / 4 = b := ⟨_, rfl⟩
  have HBE := Lib.hid (And.intro hbe hoe)
  have HATN := Lib.hid (fun wy fT fW fV => HATW.out ea wy fT fW fV heA)
  rw [hbe, hoe] at HATN
  obtain ⟨c, l, b, p, s⟩ := g
  obtain ⟨bl, rfl⟩ : ∃ bl : Nat, b = bl := ⟨b.toNat, by simp only at hleb; omega⟩
  obtain ⟨N, hN⟩ : ∃ N, to.length = N := ⟨_, rfl⟩
  rw [hN] at HDONE hlt hlen hN9 HATE HATW HATN HR0 HRw
  have hleb2 : le < bl := hleb
  obtain ⟨e1, es, ek⟩ := e
  obtain rfl : e1 = ea := hea
  obtain ⟨oa, os, ok⟩ := old
  simp only at *
  clear hbo hoo hbe hoe hleb hi
  unfold Geo.v at HLN
  unfold Ent.v
  go_enter Try.func87, Try.ntmps87
  have hR := HRw.out
  have hmb := hR.blk; have n0 : w.cell? ⟨m, 0, none⟩ = some (.int .i64 c) := hmb.cell 0; have n1 : w.cell? ⟨m, 1, none⟩ = some (.int .i64 l) := hmb.cell 1; have n2 : w.cell? ⟨m, 2, none⟩ = some (.int .i64 bl) := hmb.cell 2; have n3 : w.cell? ⟨m, 3, none⟩ = some (.int .i64 p) := hmb.cell 3; have n4 : w.cell? ⟨m, 4, none⟩ = some (.int .i64 s) := hmb.cell 4; have n5 : w.cell? ⟨m, 5, none⟩ = some (.int .i64 N) := hmb.cell 5; have n6 : w.cell? ⟨m, 6, none⟩ = some (.pointer (some ⟨kt, 0, none⟩)) := hmb.cell 6; have n7 : w.cell? ⟨m, 7, none⟩ = some (.pointer (some ⟨kw, 0, none⟩)) := hmb.cell 7; have n8 : w.cell? ⟨m, 8, none⟩ = some (.slice (some ⟨vb, 0, none⟩) bl bl) := hmb.cell 8; have nlt := hmb.lt; clear hmb
  clear hR
  have t0 := HRw.out.tos.at_ i 0 hlt (by decide)
  rw [HBO.out.1, HBO.out.2, Nat.add_zero, HF0.out.1] at t0
  have t0l := t0.lt
  obtain ⟨t0c, t0f⟩ := t0
  (go_wp2_with fail); refine (HATE.out _ _ _ _ HR0.out).mono ?_
  rintro r w1 ⟨rfl, rfl⟩
  by_cases hneg : 0 ≤ oa
  · obtain ⟨oan, rfl⟩ : ∃ k : Nat, oa = k := ⟨oa.toNat, by omega⟩
    obtain ⟨h1, h2, h3⟩ := HOL.out hneg
    obtain ⟨lo, hlo⟩ : ∃ lo : Nat, (oan : Int) / Geo.line ⟨c, l, bl, p, s⟩ = lo := ⟨((oan : Int) / Geo.line ⟨c, l, bl, p, s⟩).toNat, by omega⟩
    rw [hlo] at h1 h2
    have hoA : oan < A := by omega
    have HM1 := Lib.hid (HMO.out oan lo rfl hlo)
    have HATO := Lib.hid (fun wy fT fW fV => HATW.out oan wy fT fW fV hoA)
    obtain ⟨bq, hbq⟩ : ∃ x, sw.b (oan % 4) = x := ⟨_, rfl⟩
    obtain ⟨oq, hoq⟩ : ∃ x, oan / 4 = x := ⟨_, rfl⟩
    have HBQ := Lib.hid (And.intro hbq hoq)
    rw [hbq, hoq] at HATO
    obtain ⟨V, hV⟩ : ∃ V, validN (Geo.line ⟨c, l, bl, p, s⟩) to lo = V := ⟨_, rfl⟩
    have hV1 := HPOS.out lo hneg hlo
    have hV2 := (HVL.out lo).1
    have hloL : (oan : Int) / L = lo := by rw [← hlo, ← hL]
    rw [hV] at hV1 hV2 HM1
    have HV := Lib.hid hV
    clear hbq hoq hV hlo
    go_wp2_with fail
    refine wp_region_b 10 (by kernel_rfl) (by kernel_rfl) ?_
    simp only [List.take_succ_cons, List.take_zero, List.drop_succ_cons, List.drop_zero]
    repeat (first
      | (refine SeqC.run (v := ?_) ?_ (fun wz hz => ?_) ?_; rotate_left; (· rfl); (· have hzc := hz.cell; have hzf := hz.frozen; go_simp; first | exact UponS.value hz | exact UponS.skip hz | (refine UponS.call ?_; (go_at_call 89; refine (HATO.out _ _ _ _ (HR0.out.since hz)).mono ?_; rintro e wy ⟨rfl, rfl⟩; refine ⟨?_, hz⟩; rfl))); (try simp only [Act.put, List.setIfInBounds_toArray, List.set_cons_zero, List.set_cons_succ]))
      | (refine SeqC.skip ?_ ?_; (· rfl); (try simp only [Act.put, List.setIfInBounds_toArray, List.set_cons_zero, List.set_cons_succ])))
    refine fun wz hz => ?_
    have hRz := HR0.out.since hz
    have hu := hRz.whos.at_ oan 0 hoA (by decide)
    rw [HBQ.out.1, HBQ.out.2, Nat.mul_one, Nat.add_zero] at hu
    obtain ⟨hu1, hu2⟩ := hu
    have HO1 := Lib.hid (hRz.onlyW (HO0.out.since hz) hoA (oan / 4) (.int .i64 0))
    have HR1 := Lib.hid (hRz.setW hoA (.int .i64 0))
    rw [HBQ.out.1, HBQ.out.2] at HO1 HR1
    have HE1 := Lib.hid ((HE.out.since hz).set_other (a := ⟨bq, oq, none⟩) (by have := (HR0.out.inSw oan hoA).2; rw [HBQ.out.1] at this; simp only; omega) (.int .i64 0))
    have hmb := hRz.blk; have n0 : wz.cell? ⟨m, 0, none⟩ = some (.int .i64 c) := hmb.cell 0; have n1 : wz.cell? ⟨m, 1, none⟩ = some (.int .i64 l) := hmb.cell 1; have n2 : wz.cell? ⟨m, 2, none⟩ = some (.int .i64 bl) := hmb.cell 2; have n3 : wz.cell? ⟨m, 3, none⟩ = some (.int .i64 p) := hmb.cell 3; have n4 : wz.cell? ⟨m, 4, none⟩ = some (.int .i64 s) := hmb.cell 4; have n5 : wz.cell? ⟨m, 5, none⟩ = some (.int .i64 N) := hmb.cell 5; have n6 : wz.cell? ⟨m, 6, none⟩ = some (.pointer (some ⟨kt, 0, none⟩)) := hmb.cell 6; have n7 : wz.cell? ⟨m, 7, none⟩ = some (.pointer (some ⟨kw, 0, none⟩)) := hmb.cell 7; have n8 : wz.cell? ⟨m, 8, none⟩ = some (.slice (some ⟨vb, 0, none⟩) bl bl) := hmb.cell 8; have nlt := hmb.lt; clear hmb
    have hnm : m ≠ bq := by rw [← HBQ.out.1]; exact fun e => (hRz.swO oan hoA).1 e.symm
    have hnb : bo ≠ bq := by rw [← HBQ.out.1, ← HBO.out.1]; exact hRz.stw i oan hlt hoA
    have t0 := hRz.tos.at_ i 0 hlt (by decide)
    rw [HBO.out.1, HBO.out.2, Nat.add_zero, HF0.out.1] at t0
    have t0l := t0.lt
    obtain ⟨t0c, t0f⟩ := t0
    clear hz hRz
    go_wp2_with fail
    generalize hwa : wz.setCell ⟨bq, oq, none⟩ (.int .i64 0) = wa at HO1 HR1 HE1 ⊢
    clear hwa hu1 hu2 hnm hnb n0 n1 n2 n3 n4 n5 n6 n7 n8 nlt t0c t0f t0l
    have hR := HR1.out
    have hmb := hR.blk; have n0 : wa.cell? ⟨m, 0, none⟩ = some (.int .i64 c) := hmb.cell 0; have n1 : wa.cell? ⟨m, 1, none⟩ = some (.int .i64 l) := hmb.cell 1; have n2 : wa.cell? ⟨m, 2, none⟩ = some (.int .i64 bl) := hmb.cell 2; have n3 : wa.cell? ⟨m, 3, none⟩ = some (.int .i64 p) := hmb.cell 3; have n4 : wa.cell? ⟨m, 4, none⟩ = some (.int .i64 s) := hmb.cell 4; have n5 : wa.cell? ⟨m, 5, none⟩ = some (.int .i64 N) := hmb.cell 5; have n6 : wa.cell? ⟨m, 6, none⟩ = some (.pointer (some ⟨kt, 0, none⟩)) := hmb.cell 6; have n7 : wa.cell? ⟨m, 7, none⟩ = some (.pointer (some ⟨kw, 0, none⟩)) := hmb.cell 7; have n8 : wa.cell? ⟨m, 8, none⟩ = some (.slice (some ⟨vb, 0, none⟩) bl bl) := hmb.cell 8; have nlt := hmb.lt; clear hmb
    have t0 := hR.tos.at_ i 0 hlt (by decide)
    rw [HBO.out.1, HBO.out.2, Nat.add_zero, HF0.out.1] at t0
    have t0l := t0.lt
    obtain ⟨t0c, t0f⟩ := t0
    have hv := hR.vals lo (by simp only; omega)
    rw [HV.out] at hv
    have hvl := hv.lt
    obtain ⟨hv1, hv2⟩ := hv
    clear hR
    have hod : (oan : Int).tdiv (L : Int) = (lo : Int) := by rw [Int.tdiv_eq_ediv_of_nonneg hneg]; exact hloL
    have hL0 : ¬ (L : Int) = 0 := by omega
    have hLn : ¬ L = 0 := by omega
    have hLb : ((L : Int) == 0) = false := beq_eq_false_iff_ne.2 hL0
    have hlw : IntKind.i64.wrap (lo : Int) = lo := wrap_in _ ⟨by omega, by omega⟩
    have hVw : IntKind.i64.wrap ((V : Int) - 1) = (V : Int) - 1 := wrap_in _ ⟨by omega, by omega⟩
    have hlo0 : (0 : Int) ≤ lo := by omega
    refine wp_region_b 18 (by kernel_rfl) (by kernel_rfl) ?_
    simp only [List.take_succ_cons, List.take_zero, List.drop_succ_cons, List.drop_zero]
    repeat (first
      | (refine SeqC.run (v := ?_) ?_ (fun wz hz => ?_) ?_; rotate_left; (· rfl); (· have hzc := hz.cell; have hzf := hz.frozen; go_simp; first | exact UponS.value hz | exact UponS.skip hz | (refine UponS.call ?_; (go_at_call 40; refine (HLN.out _).mono ?_; rintro e wy ⟨rfl, hb⟩; refine ⟨?_, hz.step hb⟩; rfl))); (try simp only [Act.put, List.setIfInBounds_toArray, List.set_cons_zero, List.set_cons_succ]))
      | (refine SeqC.skip ?_ ?_; (· rfl); (try simp only [Act.put, List.setIfInBounds_toArray, List.set_cons_zero, List.set_cons_succ])))
    refine fun wz hz => ?_
    have hRz := HR1.out.since hz
    have hv := hRz.vals lo (by simp only; omega)
    rw [HV.out] at hv
    obtain ⟨hv1, hv2⟩ := hv
    have HO2 := Lib.hid (hRz.onlyV (HO1.out.since hz) lo (.int .i64 ((V : Int) - 1)))
    have HR2 := Lib.hid (hRz.setV (l := lo) (by simp only; omega) (.int .i64 ((V : Int) - 1)))
    have HE2 := Lib.hid ((HE1.out.since hz).set_other (a := ⟨vb, lo, none⟩) (by have := HR0.out.inV.2; simp only; omega) (.int .i64 ((V : Int) - 1)))
    have HR3 := Lib.hid (((HR2.out.setT hlt (show 0 < 3 by decide) (.int .i64 ea)).setT hlt (show 1 < 3 by decide) (.int .i64 es)).setT hlt (show 2 < 3 by decide) (.int .i64 ek))
    have HO3 := Lib.hid (((HO2.out.setCell (p := ⟨bo, oo, none⟩) (by have := HR0.out.inSt i hlt; rwa [HBO.out.1] at this) (.int .i64 ea)).setCell (p := ⟨bo, oo + 1, none⟩) (by have := HR0.out.inSt i hlt; rwa [HBO.out.1] at this) (.int .i64 es)).setCell (p := ⟨bo, oo + 2, none⟩) (by have := HR0.out.inSt i hlt; rwa [HBO.out.1] at this) (.int .i64 ek))
    rw [HBO.out.1, HBO.out.2, Nat.add_zero] at HR3
    have hbw : w.heap.size ≠ bo := by have := (HR0.out.inSt i hlt).2; rw [HBO.out.1] at this; omega
    have HE3 := Lib.hid (((HE2.out.set_other (a := ⟨bo, oo, none⟩) hbw (.int .i64 ea)).set_other (a := ⟨bo, oo + 1, none⟩) hbw (.int .i64 es)).set_other (a := ⟨bo, oo + 2, none⟩) hbw (.int .i64 ek))
    have hEz := HE1.out.since hz
    have e0 : wz.cell? ⟨w.heap.size, 0, none⟩ = some (.int .i64 ea) := hEz.cell 0
    have e1 : wz.cell? ⟨w.heap.size, 1, none⟩ = some (.int .i64 es) := hEz.cell 1
    have e2 : wz.cell? ⟨w.heap.size, 2, none⟩ = some (.int .i64 ek) := hEz.cell 2
    have x0 := hRz.tos.at_ i 0 hlt (by decide)
    have x1 := hRz.tos.at_ i 1 hlt (by decide)
    have x2 := hRz.tos.at_ i 2 hlt (by decide)
    rw [HBO.out.1, HBO.out.2] at x0 x1 x2
    rw [Nat.add_zero, HF0.out.1] at x0
    rw [HF0.out.2.1] at x1
    rw [HF0.out.2.2] at x2
    obtain ⟨x0c, x0f⟩ := x0
    obtain ⟨x1c, x1f⟩ := x1
    obtain ⟨x2c, x2f⟩ := x2
    have hvb : bo ≠ vb := by rw [← HBO.out.1]; exact (HR0.out.stO i hlt).2.2
    have hvw : w.heap.size ≠ vb := by have := HR0.out.inV.2; omega
    clear hz hRz hEz
    go_wp2_with fail
    generalize hwb : (((wz.setCell ⟨vb, lo, none⟩ (.int .i64 ((V : Int) - 1))).setCell ⟨bo, oo, none⟩ (.int .i64 ea)).setCell ⟨bo, oo + 1, none⟩ (.int .i64 es)).setCell ⟨bo, oo + 2, none⟩ (.int .i64 ek) = wb at HO3 HR3 HE3 ⊢
    clear hwb hv1 hv2 n0 n1 n2 n3 n4 n5 n6 n7 n8 nlt t0c t0f t0l hvl hod hlw hVw x0c x0f x1c x1f x2c x2f e0 e1 e2 hvb hvw HE2 HE1 HR2 HR1 HO2 HO1
    have HMID : Hid (∃ fW fV, MapRaw wb B C m ⟨c, l, bl, p, s⟩ N A kt kw vb st sw (fun i' j' => if i' = i ∧ j' = 2 then .int .i64 ek else if i' = i ∧ j' = 1 then .int .i64 es else if i' = i ∧ j' = 0 then .int .i64 ea else fT0 i' j') fW fV ∧ PutMid ⟨c, l, bl, p, s⟩ to i ⟨ea, es, ek⟩ bl A fW fV) := ⟨_, _, HR3.out, HM1.out⟩
    obtain ⟨fW, fV, hRp, hMp⟩ := HMID.out
    obtain ⟨V2, hV2a, hV2b⟩ := hMp.val le hleb2
    rw [if_pos hle] at hV2b
    have hV2c := (HVL.out le).2
    have HRp := Lib.hid hRp
    have HMp := Lib.hid hMp
    have HV2 := Lib.hid hV2a
    clear hRp hMp hV2a HMID
    have hV2d : -1 ≤ V2 ∧ V2 ≤ 4096 := by omega
    clear hV2b hV2c
    have hiw : IntKind.i64.wrap ((i : Int) + 1) = (i : Int) + 1 := wrap_in _ ⟨by omega, by omega⟩
    have hR := HRp.out
    have hmb := hR.blk; have n0 : wb.cell? ⟨m, 0, none⟩ = some (.int .i64 c) := hmb.cell 0; have n1 : wb.cell? ⟨m, 1, none⟩ = some (.int .i64 l) := hmb.cell 1; have n2 : wb.cell? ⟨m, 2, none⟩ = some (.int .i64 bl) := hmb.cell 2; have n3 : wb.cell? ⟨m, 3, none⟩ = some (.int .i64 p) := hmb.cell 3; have n4 : wb.cell? ⟨m, 4, none⟩ = some (.int .i64 s) := hmb.cell 4; have n5 : wb.cell? ⟨m, 5, none⟩ = some (.int .i64 N) := hmb.cell 5; have n6 : wb.cell? ⟨m, 6, none⟩ = some (.pointer (some ⟨kt, 0, none⟩)) := hmb.cell 6; have n7 : wb.cell? ⟨m, 7, none⟩ = some (.pointer (some ⟨kw, 0, none⟩)) := hmb.cell 7; have n8 : wb.cell? ⟨m, 8, none⟩ = some (.slice (some ⟨vb, 0, none⟩) bl bl) := hmb.cell 8; have nlt := hmb.lt; clear hmb
    clear hR
    have e0 : wb.cell? ⟨w.heap.size, 0, none⟩ = some (.int .i64 ea) := HE3.out.cell 0
    refine wp_region_b 10 (by kernel_rfl) (by kernel_rfl) ?_
    simp only [List.take_succ_cons, List.take_zero, List.drop_succ_cons, List.drop_zero]
    repeat (first
      | (refine SeqC.run (v := ?_) ?_ (fun wz hz => ?_) ?_; rotate_left; (· rfl); (· have hzc := hz.cell; have hzf := hz.frozen; go_simp; first | exact UponS.value hz | exact UponS.skip hz | (refine UponS.call ?_; (go_at_call 89; refine (HATN.out _ _ _ _ (HRp.out.since hz)).mono ?_; rintro e wy ⟨rfl, rfl⟩; refine ⟨?_, hz⟩; rfl))); (try simp only [Act.put, List.setIfInBounds_toArray, List.set_cons_zero, List.set_cons_succ]))
      | (refine SeqC.skip ?_ ?_; (· rfl); (try simp only [Act.put, List.setIfInBounds_toArray, List.set_cons_zero, List.set_cons_succ])))
    refine fun wz hz => ?_
    have hRz := HRp.out.since hz
    have hu := hRz.whos.at_ ea 0 heA (by decide)
    rw [HBE.out.1, HBE.out.2, Nat.mul_one, Nat.add_zero] at hu
    obtain ⟨hu1, hu2⟩ := hu
    have HO4 := Lib.hid (hRz.onlyW (HO3.out.since hz) heA (ea / 4) (.int .i64 ((i : Int) + 1)))
    have HR4 := Lib.hid (hRz.setW heA (.int .i64 ((i : Int) + 1)))
    rw [HBE.out.1, HBE.out.2] at HO4 HR4
    have HE4 := Lib.hid ((HE3.out.since hz).set_other (a := ⟨be, oe, none⟩) (by have := (HRp.out.inSw ea heA).2; rw [HBE.out.1] at this; simp only; omega) (.int .i64 ((i : Int) + 1)))
    clear hz hRz n0 n1 n2 n3 n4 n5 n6 n7 n8 nlt e0
    go_wp2_with fail
    generalize hwc : wz.setCell ⟨be, oe, none⟩ (.int .i64 ((i : Int) + 1)) = wc at HO4 HR4 HE4 ⊢
    clear hwc hu1 hu2
    have hR := HR4.out
    have hmb := hR.blk; have n0 : wc.cell? ⟨m, 0, none⟩ = some (.int .i64 c) := hmb.cell 0; have n1 : wc.cell? ⟨m, 1, none⟩ = some (.int .i64 l) := hmb.cell 1; have n2 : wc.cell? ⟨m, 2, none⟩ = some (.int .i64 bl) := hmb.cell 2; have n3 : wc.cell? ⟨m, 3, none⟩ = some (.int .i64 p) := hmb.cell 3; have n4 : wc.cell? ⟨m, 4, none⟩ = some (.int .i64 s) := hmb.cell 4; have n5 : wc.cell? ⟨m, 5, none⟩ = some (.int .i64 N) := hmb.cell 5; have n6 : wc.cell? ⟨m, 6, none⟩ = some (.pointer (some ⟨kt, 0, none⟩)) := hmb.cell 6; have n7 : wc.cell? ⟨m, 7, none⟩ = some (.pointer (some ⟨kw, 0, none⟩)) := hmb.cell 7; have n8 : wc.cell? ⟨m, 8, none⟩ = some (.slice (some ⟨vb, 0, none⟩) bl bl) := hmb.cell 8; have nlt := hmb.lt; clear hmb
    have hv := hR.vals le (by simp only; omega)
    rw [HV2.out] at hv
    have hvl := hv.lt
    obtain ⟨hv1, hv2⟩ := hv
    clear hR
    have e0 : wc.cell? ⟨w.heap.size, 0, none⟩ = some (.int .i64 ea) := HE4.out.cell 0
    have hod : (ea : Int).tdiv (L : Int) = (le : Int) := by rw [Int.tdiv_eq_ediv_of_nonneg (by omega), ← hle, ← hL]
    have hL0 : ¬ (L : Int) = 0 := by omega
    have hLn : ¬ L = 0 := by omega
    have hLb : ((L : Int) == 0) = false := beq_eq_false_iff_ne.2 hL0
    have hlw : IntKind.i64.wrap (le : Int) = le := wrap_in _ ⟨by omega, by omega⟩
    have hVw : IntKind.i64.wrap (V2 + 1) = V2 + 1 := wrap_in _ ⟨by omega, by omega⟩
    have hle0 : (0 : Int) ≤ le := by omega
    refine wp_region_b 16 (by kernel_rfl) (by kernel_rfl) ?_
    simp only [List.take_succ_cons, List.take_zero, List.drop_succ_cons, List.drop_zero]
    repeat (first
      | (refine SeqC.run (v := ?_) ?_ (fun wz hz => ?_) ?_; rotate_left; (· rfl); (· have hzc := hz.cell; have hzf := hz.frozen; go_simp; first | exact UponS.value hz | exact UponS.skip hz | (refine UponS.call ?_; (go_at_call 40; refine (HLN.out _).mono ?_; rintro e wy ⟨rfl, hb⟩; refine ⟨?_, hz.step hb⟩; rfl))); (try simp only [Act.put, List.setIfInBounds_toArray, List.set_cons_zero, List.set_cons_succ]))
      | (refine SeqC.skip ?_ ?_; (· rfl); (try simp only [Act.put, List.setIfInBounds_toArray, List.set_cons_zero, List.set_cons_succ])))
    refine fun wz hz => ?_
    have hRz := HR4.out.since hz
    have hv := hRz.vals le (by simp only; omega)
    rw [HV2.out] at hv
    obtain ⟨hv1, hv2⟩ := hv
    have HO5 := Lib.hid (hRz.onlyV (HO4.out.since hz) le (.int .i64 (V2 + 1)))
    have HR5 := Lib.hid (hRz.setV (l := le) (by simp only; omega) (.int .i64 (V2 + 1)))
    clear hz hRz
    go_wp2_with fail
    (first | (refine bodyPost_ret (results_none rfl _ _ _) rfl ?_) | (refine bodyPost_end (results_none rfl _ _ _) rfl ?_))
    exact ⟨rfl, HDONE.out _ fW fV V2 HMp.out HV2.out HR5.out, HO5.out⟩
  · have HR3 := Lib.hid (((HR0.out.setT hlt (show 0 < 3 by decide) (.int .i64 ea)).setT hlt (show 1 < 3 by decide) (.int .i64 es)).setT hlt (show 2 < 3 by decide) (.int .i64 ek))
    have HO3 := Lib.hid (((HO0.out.setCell (p := ⟨bo, oo, none⟩) (by have := HR0.out.inSt i hlt; rwa [HBO.out.1] at this) (.int .i64 ea)).setCell (p := ⟨bo, oo + 1, none⟩) (by have := HR0.out.inSt i hlt; rwa [HBO.out.1] at this) (.int .i64 es)).setCell (p := ⟨bo, oo + 2, none⟩) (by have := HR0.out.inSt i hlt; rwa [HBO.out.1] at this) (.int .i64 ek))
    rw [HBO.out.1, HBO.out.2, Nat.add_zero] at HR3
    have hbw : w.heap.size ≠ bo := by have := (HR0.out.inSt i hlt).2; rw [HBO.out.1] at this; omega
    have HE3 := Lib.hid (((HE.out.set_other (a := ⟨bo, oo, none⟩) hbw (.int .i64 ea)).set_other (a := ⟨bo, oo + 1, none⟩) hbw (.int .i64 es)).set_other (a := ⟨bo, oo + 2, none⟩) hbw (.int .i64 ek))
    have HM1 := Lib.hid (HMN.out (by omega))
    generalize hwa : w.alloc (.cells #[.int .i64 ea, .int .i64 es, .int .i64 ek] 32) = wa at HO3 HR3 HE3 HO0 HR0 HE ⊢
    clear hwa n0 n1 n2 n3 n4 n5 n6 n7 n8 nlt t0c t0f t0l
    have hR := HR0.out
    have hmb := hR.blk; have n0 : wa.cell? ⟨m, 0, none⟩ = some (.int .i64 c) := hmb.cell 0; have n1 : wa.cell? ⟨m, 1, none⟩ = some (.int .i64 l) := hmb.cell 1; have n2 : wa.cell? ⟨m, 2, none⟩ = some (.int .i64 bl) := hmb.cell 2; have n3 : wa.cell? ⟨m, 3, none⟩ = some (.int .i64 p) := hmb.cell 3; have n4 : wa.cell? ⟨m, 4, none⟩ = some (.int .i64 s) := hmb.cell 4; have n5 : wa.cell? ⟨m, 5, none⟩ = some (.int .i64 N) := hmb.cell 5; have n6 : wa.cell? ⟨m, 6, none⟩ = some (.pointer (some ⟨kt, 0, none⟩)) := hmb.cell 6; have n7 : wa.cell? ⟨m, 7, none⟩ = some (.pointer (some ⟨kw, 0, none⟩)) := hmb.cell 7; have n8 : wa.cell? ⟨m, 8, none⟩ = some (.slice (some ⟨vb, 0, none⟩) bl bl) := hmb.cell 8; have nlt := hmb.lt; clear hmb
    have e0 : wa.cell? ⟨w.heap.size, 0, none⟩ = some (.int .i64 ea) := HE.out.cell 0
    have e1 : wa.cell? ⟨w.heap.size, 1, none⟩ = some (.int .i64 es) := HE.out.cell 1
    have e2 : wa.cell? ⟨w.heap.size, 2, none⟩ = some (.int .i64 ek) := HE.out.cell 2
    have x0 := hR.tos.at_ i 0 hlt (by decide)
    have x1 := hR.tos.at_ i 1 hlt (by decide)
    have x2 := hR.tos.at_ i 2 hlt (by decide)
    rw [HBO.out.1, HBO.out.2] at x0 x1 x2
    rw [Nat.add_zero, HF0.out.1] at x0
    rw [HF0.out.2.1] at x1
    rw [HF0.out.2.2] at x2
    obtain ⟨x0c, x0f⟩ := x0
    obtain ⟨x1c, x1f⟩ := x1
    obtain ⟨x2c, x2f⟩ := x2
    clear hR
    go_wp2_with fail
    generalize hwb : ((wa.setCell ⟨bo, oo, none⟩ (.int .i64 ea)).setCell ⟨bo, oo + 1, none⟩ (.int .i64 es)).setCell ⟨bo, oo + 2, none⟩ (.int .i64 ek) = wb at HO3 HR3 HE3 ⊢
    clear hwb n0 n1 n2 n3 n4 n5 n6 n7 n8 nlt x0c x0f x1c x1f x2c x2f e0 e1 e2
    have HMID : Hid (∃ fW fV, MapRaw wb B C m ⟨c, l, bl, p, s⟩ N A kt kw vb st sw (fun i' j' => if i' = i ∧ j' = 2 then .int .i64 ek else if i' = i ∧ j' = 1 then .int .i64 es else if i' = i ∧ j' = 0 then .int .i64 ea else fT0 i' j') fW fV ∧ PutMid ⟨c, l, bl, p, s⟩ to i ⟨ea, es, ek⟩ bl A fW fV) := ⟨_, _, HR3.out, HM1.out⟩
    obtain ⟨fW, fV, hRp, hMp⟩ := HMID.out
    obtain ⟨V2, hV2a, hV2b⟩ := hMp.val le hleb2
    rw [if_pos hle] at hV2b
    have hV2c := (HVL.out le).2
    have HRp := Lib.hid hRp
    have HMp := Lib.hid hMp
    have HV2 := Lib.hid hV2a
    clear hRp hMp hV2a HMID
    have hV2d : -1 ≤ V2 ∧ V2 ≤ 4096 := by omega
    clear hV2b hV2c
    have hiw : IntKind.i64.wrap ((i : Int) + 1) = (i : Int) + 1 := wrap_in _ ⟨by omega, by omega⟩
    have hR := HRp.out
    have hmb := hR.blk; have n0 : wb.cell? ⟨m, 0, none⟩ = some (.int .i64 c) := hmb.cell 0; have n1 : wb.cell? ⟨m, 1, none⟩ = some (.int .i64 l) := hmb.cell 1; have n2 : wb.cell? ⟨m, 2, none⟩ = some (.int .i64 bl) := hmb.cell 2; have n3 : wb.cell? ⟨m, 3, none⟩ = some (.int .i64 p) := hmb.cell 3; have n4 : wb.cell? ⟨m, 4, none⟩ = some (.int .i64 s) := hmb.cell 4; have n5 : wb.cell? ⟨m, 5, none⟩ = some (.int .i64 N) := hmb.cell 5; have n6 : wb.cell? ⟨m, 6, none⟩ = some (.pointer (some ⟨kt, 0, none⟩)) := hmb.cell 6; have n7 : wb.cell? ⟨m, 7, none⟩ = some (.pointer (some ⟨kw, 0, none⟩)) := hmb.cell 7; have n8 : wb.cell? ⟨m, 8, none⟩ = some (.slice (some ⟨vb, 0, none⟩) bl bl) := hmb.cell 8; have nlt := hmb.lt; clear hmb
    clear hR
    have e0 : wb.cell? ⟨w.heap.size, 0, none⟩ = some (.int .i64 ea) := HE3.out.cell 0
    refine wp_region_b 10 (by kernel_rfl) (by kernel_rfl) ?_
    simp only [List.take_succ_cons, List.take_zero, List.drop_succ_cons, List.drop_zero]
    repeat (first
      | (refine SeqC.run (v := ?_) ?_ (fun wz hz => ?_) ?_; rotate_left; (· rfl); (· have hzc := hz.cell; have hzf := hz.frozen; go_simp; first | exact UponS.value hz | exact UponS.skip hz | (refine UponS.call ?_; (go_at_call 89; refine (HATN.out _ _ _ _ (HRp.out.since hz)).mono ?_; rintro e wy ⟨rfl, rfl⟩; refine ⟨?_, hz⟩; rfl))); (try simp only [Act.put, List.setIfInBounds_toArray, List.set_cons_zero, List.set_cons_succ]))
      | (refine SeqC.skip ?_ ?_; (· rfl); (try simp only [Act.put, List.setIfInBounds_toArray, List.set_cons_zero, List.set_cons_succ])))
    refine fun wz hz => ?_
    have hRz := HRp.out.since hz
    have hu := hRz.whos.at_ ea 0 heA (by decide)
    rw [HBE.out.1, HBE.out.2, Nat.mul_one, Nat.add_zero] at hu
    obtain ⟨hu1, hu2⟩ := hu
    have HO4 := Lib.hid (hRz.onlyW (HO3.out.since hz) heA (ea / 4) (.int .i64 ((i : Int) + 1)))
    have HR4 := Lib.hid (hRz.setW heA (.int .i64 ((i : Int) + 1)))
    rw [HBE.out.1, HBE.out.2] at HO4 HR4
    have HE4 := Lib.hid ((HE3.out.since hz).set_other (a := ⟨be, oe, none⟩) (by have := (HRp.out.inSw ea heA).2; rw [HBE.out.1] at this; simp only; omega) (.int .i64 ((i : Int) + 1)))
    clear hz hRz n0 n1 n2 n3 n4 n5 n6 n7 n8 nlt e0
    go_wp2_with fail
    generalize hwc : wz.setCell ⟨be, oe, none⟩ (.int .i64 ((i : Int) + 1)) = wc at HO4 HR4 HE4 ⊢
    clear hwc hu1 hu2
    have hR := HR4.out
    have hmb := hR.blk; have n0 : wc.cell? ⟨m, 0, none⟩ = some (.int .i64 c) := hmb.cell 0; have n1 : wc.cell? ⟨m, 1, none⟩ = some (.int .i64 l) := hmb.cell 1; have n2 : wc.cell? ⟨m, 2, none⟩ = some (.int .i64 bl) := hmb.cell 2; have n3 : wc.cell? ⟨m, 3, none⟩ = some (.int .i64 p) := hmb.cell 3; have n4 : wc.cell? ⟨m, 4, none⟩ = some (.int .i64 s) := hmb.cell 4; have n5 : wc.cell? ⟨m, 5, none⟩ = some (.int .i64 N) := hmb.cell 5; have n6 : wc.cell? ⟨m, 6, none⟩ = some (.pointer (some ⟨kt, 0, none⟩)) := hmb.cell 6; have n7 : wc.cell? ⟨m, 7, none⟩ = some (.pointer (some ⟨kw, 0, none⟩)) := hmb.cell 7; have n8 : wc.cell? ⟨m, 8, none⟩ = some (.slice (some ⟨vb, 0, none⟩) bl bl) := hmb.cell 8; have nlt := hmb.lt; clear hmb
    have hv := hR.vals le (by simp only; omega)
    rw [HV2.out] at hv
    have hvl := hv.lt
    obtain ⟨hv1, hv2⟩ := hv
    clear hR
    have e0 : wc.cell? ⟨w.heap.size, 0, none⟩ = some (.int .i64 ea) := HE4.out.cell 0
    have hod : (ea : Int).tdiv (L : Int) = (le : Int) := by rw [Int.tdiv_eq_ediv_of_nonneg (by omega), ← hle, ← hL]
    have hL0 : ¬ (L : Int) = 0 := by omega
    have hLn : ¬ L = 0 := by omega
    have hLb : ((L : Int) == 0) = false := beq_eq_false_iff_ne.2 hL0
    have hlw : IntKind.i64.wrap (le : Int) = le := wrap_in _ ⟨by omega, by omega⟩
    have hVw : IntKind.i64.wrap (V2 + 1) = V2 + 1 := wrap_in _ ⟨by omega, by omega⟩
    have hle0 : (0 : Int) ≤ le := by omega
    refine wp_region_b 16 (by kernel_rfl) (by kernel_rfl) ?_
    simp only [List.take_succ_cons, List.take_zero, List.drop_succ_cons, List.drop_zero]
    repeat (first
      | (refine SeqC.run (v := ?_) ?_ (fun wz hz => ?_) ?_; rotate_left; (· rfl); (· have hzc := hz.cell; have hzf := hz.frozen; go_simp; first | exact UponS.value hz | exact UponS.skip hz | (refine UponS.call ?_; (go_at_call 40; refine (HLN.out _).mono ?_; rintro e wy ⟨rfl, hb⟩; refine ⟨?_, hz.step hb⟩; rfl))); (try simp only [Act.put, List.setIfInBounds_toArray, List.set_cons_zero, List.set_cons_succ]))
      | (refine SeqC.skip ?_ ?_; (· rfl); (try simp only [Act.put, List.setIfInBounds_toArray, List.set_cons_zero, List.set_cons_succ])))
    refine fun wz hz => ?_
    have hRz := HR4.out.since hz
    have hv := hRz.vals le (by simp only; omega)
    rw [HV2.out] at hv
    obtain ⟨hv1, hv2⟩ := hv
    have HO5 := Lib.hid (hRz.onlyV (HO4.out.since hz) le (.int .i64 (V2 + 1)))
    have HR5 := Lib.hid (hRz.setV (l := le) (by simp only; omega) (.int .i64 (V2 + 1)))
    clear hz hRz
    go_wp2_with fail
    (first | (refine bodyPost_ret (results_none rfl _ _ _) rfl ?_) | (refine bodyPost_end (results_none rfl _ _ _) rfl ?_))
    exact ⟨rfl, HDONE.out _ fW fV V2 HMp.out HV2.out HR5.out, HO5.out⟩

end Go.Proofs.Ytlkapaecaeldpaa
