/-
  The walks of the laws over package l2p: L2pRefuses.
-/
import Derived.Test.YtbfpnpoafepjjaaLaw11b
import Derived.Test.YtbfpnpoafepjjaaOps
set_option linter.unusedVariables false
set_option linter.unusedSimpArgs false
set_option maxRecDepth 16384
namespace Go.Proofs.Ytbfpnpoafepjjaa
open Go.RowKit

def OpV.e (o : OpV) : Ent := ⟨o.ea, o.es, o.ek⟩
/-- a call of Set or of Move -/
def opTo (g : Geo) (to : List Ent) (o : OpV) : Bool × Int × List Ent := if o.d < 4 then setTo g to o.lba o.e else moveTo g to o.lba o.f o.t

theorem setTo_cases (g : Geo) (to : List Ent) (lba : Int) (e : Ent) : ((setTo g to lba e).1 = false ∧ (setTo g to lba e).2.2 = to) ∨ ((setTo g to lba e).1 = true ∧ (0 ≤ lba ∧ lba < to.length) ∧ (setTo g to lba e).2.2 = to.set lba.toNat e) := by
  unfold setTo
  split
  · rename_i h
    split
    · split
      · exact .inl ⟨rfl, rfl⟩
      · split
        · exact .inl ⟨rfl, rfl⟩
        · exact .inr ⟨rfl, h, rfl⟩
    · exact .inl ⟨rfl, rfl⟩
  · exact .inl ⟨rfl, rfl⟩
theorem moveTo_cases (g : Geo) (to : List Ent) (lba f t : Int) : ((moveTo g to lba f t).1 = false ∧ (moveTo g to lba f t).2.2 = to) ∨ ((moveTo g to lba f t).1 = true ∧ (0 ≤ lba ∧ lba < to.length) ∧ (moveTo g to lba f t).2.2 = to.set lba.toNat { to.getD lba.toNat Ent.none with a := t }) := by
  unfold moveTo
  split
  · rename_i h
    split
    · split
      · exact .inl ⟨rfl, rfl⟩
      · split
        · exact .inl ⟨rfl, rfl⟩
        · exact .inr ⟨rfl, h, rfl⟩
    · exact .inl ⟨rfl, rfl⟩
  · exact .inl ⟨rfl, rfl⟩
theorem setTo_len (g : Geo) (to : List Ent) (lba : Int) (e : Ent) : (setTo g to lba e).2.2.length = to.length := by
  rcases setTo_cases g to lba e with ⟨_, h⟩ | ⟨_, _, h⟩ <;> rw [h]
  rw [List.length_set]
theorem moveTo_len (g : Geo) (to : List Ent) (lba f t : Int) : (moveTo g to lba f t).2.2.length = to.length := by
  rcases moveTo_cases g to lba f t with ⟨_, h⟩ | ⟨_, _, h⟩ <;> rw [h]
  rw [List.length_set]

/-- the entries that were kept, so far -/
def Was (w : World) (b i : Nat) (to : List Ent) : Prop := ∀ i' j, i' < 6 → j < 3 → At w b (i' * 3 + j) (if i' < i then (to.getD i' Ent.none).cell j else .int .i64 0)

theorem Was.below {w w' : World} {b i : Nat} {to : List Ent} (h : Was w b i to) (hb : Below w.heap.size w w') : Was w' b i to := fun i' j h1 h2 => (h i' j h1 h2).below hb
theorem Was.only {w w' : World} {b i B C : Nat} {to : List Ent} (h : Was w b i to) (ho : Only B C w w') (hb : b < B ∨ C ≤ b) : Was w' b i to := fun i' j h1 h2 => (h i' j h1 h2).only ho hb
theorem was_new {w : World} {b : Nat} {t : TypeId} {to : List Ent} (h : Blk w b t (List.replicate 18 (.int .i64 0))) : Was w b 0 to := by
  intro i' j h1 h2
  rw [if_neg (by omega)]
  refine ⟨?_, h.free _⟩
  rw [h.cell, List.getElem?_replicate, if_pos (by omega)]
theorem Was.step {w : World} {b i : Nat} {to : List Ent} {x : Ent} (h : Was w b i to) (hx : to[i]? = some x) :
    Was (((w.setCell ⟨b, i * 3, none⟩ (.int .i64 x.a)).setCell ⟨b, i * 3 + 1, none⟩ (.int .i64 x.s)).setCell ⟨b, i * 3 + 2, none⟩ (.int .i64 x.k)) b (i + 1) to := by
  intro i' j h1 h2
  have h3 := (((h i' j h1 h2).set (b2 := b) (o2 := i * 3) (.int .i64 x.a)).set (b2 := b) (o2 := i * 3 + 1) (.int .i64 x.s)).set (b2 := b) (o2 := i * 3 + 2) (.int .i64 x.k)
  refine Eq.mp ?_ h3
  congr 1
  by_cases hi : i' = i
  · subst hi
    have hg : to.getD i' Ent.none = x := by rw [List.getD_eq_getElem?_getD, hx]; rfl
    rw [if_pos (show i' < i' + 1 by omega), hg]
    rcases (show j = 0 ∨ j = 1 ∨ j = 2 by omega) with rfl | rfl | rfl <;> simp [Ent.cell]
  · rw [if_neg (show ¬ (b = b ∧ i' * 3 + j = i * 3 + 2) by omega), if_neg (show ¬ (b = b ∧ i' * 3 + j = i * 3 + 1) by omega), if_neg (show ¬ (b = b ∧ i' * 3 + j = i * 3) by omega)]
    by_cases hl : i' < i
    · rw [if_pos hl, if_pos (by omega)]
    · rw [if_neg hl, if_neg (by omega)]
theorem Was.get {w : World} {b : Nat} {to : List Ent} (h : Was w b 6 to) {i : Nat} (hi : i < 6) {x : Ent} (hx : to[i]? = some x) :
    w.cell? ⟨b, i * 3, none⟩ = some (.int .i64 x.a) ∧ w.cell? ⟨b, i * 3 + 1, none⟩ = some (.int .i64 x.s) ∧ w.cell? ⟨b, i * 3 + 2, none⟩ = some (.int .i64 x.k) := by
  have hg : to.getD i Ent.none = x := by rw [List.getD_eq_getElem?_getD, hx]; rfl
  have h0 := (h i 0 hi (by decide)).1
  have h1 := (h i 1 hi (by decide)).1
  have h2 := (h i 2 hi (by decide)).1
  rw [if_pos hi, hg] at h0 h1 h2
  exact ⟨h0, h1, h2⟩

set_option maxHeartbeats 4000000 in
theorem l2pRefusesWalk (g : Geo) (a0 : Option Addr) (len0 cap0 : Nat) (o : OpV) (w : World) (hg : g.Wf) (w0 : IsOps w a0 len0 cap0) :
    Calls Try.prog 11 #[g.v, .slice a0 len0 cap0, o.v] w fun e w' => e = .returned (.bool true) ∧ Below w.heap.size w w' := by
  have HW := Lib.hid hg
  obtain ⟨hll, hls⟩ := w0
  have HL := Lib.hid hls
  clear hg hls
  obtain ⟨c, l, b, p, s⟩ := g
  obtain ⟨od, olba, of_, ot, oea, oes, oek⟩ := o
  have HG := Lib.hid ((Blk.new w 23 [.int .i64 c, .int .i64 l, .int .i64 b, .int .i64 p, .int .i64 s]).alloc (.cells #[.int .i64 od, .int .i64 olba, .int .i64 of_, .int .i64 ot, .int .i64 oea, .int .i64 oes, .int .i64 oek] 57))
  have HX := Lib.hid (Blk.new1 w (.cells #[.int .i64 c, .int .i64 l, .int .i64 b, .int .i64 p, .int .i64 s] 23) 57 [.int .i64 od, .int .i64 olba, .int .i64 of_, .int .i64 ot, .int .i64 oea, .int .i64 oes, .int .i64 oek])
  unfold Geo.v OpV.v
  simp only []
  go_enter Try.func11, Try.ntmps11
  (go_wp2_with fail); refine (awake11_any _).mono ?_
  rintro e w1 ⟨rfl, hb⟩
  have hx := HX.out.below hb
  have hk := HG.out.below hb; have k0 : w1.cell? ⟨w.heap.size, 0, none⟩ = some (.int .i64 c) := hk.cell 0; have k1 : w1.cell? ⟨w.heap.size, 1, none⟩ = some (.int .i64 l) := hk.cell 1; have k2 : w1.cell? ⟨w.heap.size, 2, none⟩ = some (.int .i64 b) := hk.cell 2; have k3 : w1.cell? ⟨w.heap.size, 3, none⟩ = some (.int .i64 p) := hk.cell 3; have k4 : w1.cell? ⟨w.heap.size, 4, none⟩ = some (.int .i64 s) := hk.cell 4; have hltk := hk.lt
  have HX1 := Lib.hid hx
  have HB1 := Lib.hid ((((Below.refl w.heap.size w).alloc (Nat.le_refl _) (.cells #[.int .i64 c, .int .i64 l, .int .i64 b, .int .i64 p, .int .i64 s] 23)).alloc (by simp) (.cells #[.int .i64 od, .int .i64 olba, .int .i64 of_, .int .i64 ot, .int .i64 oea, .int .i64 oes, .int .i64 oek] 57)).trans (hb.mono (by simp; omega)))
  clear hb hk hx
  (go_wp2_with fail); refine (l2pNew_any ⟨c, l, b, p, s⟩ 6 _ HW.out ⟨by decide, by decide⟩).mono ?_
  intro e w2 hp
  by_cases hno : newOk ⟨c, l, b, p, s⟩ 6 = true
  · obtain ⟨hb, m, kt, kw, vb, st', sw, rfl, hm⟩ := newPost_ok hp hno
    have HM2 := Lib.hid hm
    have hx := HX1.out.below hb
    have hXB : w.heap.size + 1 < w1.heap.size := HX1.out.lt
    have HX2 := Lib.hid hx
    have HB2 := Lib.hid (HB1.out.trans (hb.mono HB1.out.size))
    have HB2s := HB1.out.size
    generalize hBB : w1.heap.size = B at HM2 hXB HB2s
    generalize hCC2 : w2.heap.size = C at HM2
    clear hp hm hb hx hno k0 k1 k2 k3 k4 hltk HG HX HX1
    go_wp2_with fail
    go_loopw [10] (fun t wr => ∃ (k : Nat) (to : List Ent), k ≤ len0 ∧ t = .int .i64 k ∧ to.length = 6 ∧ Hid (MapAt wr B C m ⟨c, l, b, p, s⟩ to kt kw vb st' sw) ∧ Hid (Blk wr (w.heap.size + 1) 57 [.int .i64 od, .int .i64 olba, .int .i64 of_, .int .i64 ot, .int .i64 oea, .int .i64 oes, .int .i64 oek]) ∧ Hid (Below w.heap.size w wr)) (fun t _ => ((len0 : Int) - intOf t).toNat)
    case atStart => exact ⟨0, _, by omega, rfl, by simp, HM2.out, HX2.out, HB2.out⟩
    case round =>
      obtain ⟨k, to, hkl, rfl, hto, HMr, HXr, HBr⟩ := hrel
      by_cases hgo : k < len0 ∧ k < 60
      · obtain ⟨hlt, hk60⟩ := hgo
        · obtain ⟨ab, off, rfl, habl, F, hF⟩ := HL.out (by omega)
          have hc := hF k hlt
          generalize F k = ov at hc
          obtain ⟨d, lba, f, t, ea, es, ek⟩ := ov
          have cell : ∀ j v, (OpV.l ⟨d, lba, f, t, ea, es, ek⟩)[j]? = some v → j < 7 → wr.cell? ⟨ab, off + k * 7 + j, none⟩ = some v := fun j v hv hj => by
            rw [HBr.out.cell (p := ⟨ab, off + k * 7 + j, none⟩) habl, hc j hj, hv]
          have c0 : wr.cell? ⟨ab, off + k * 7, none⟩ = some (.int .i64 d) := cell 0 _ rfl (by decide)
          have c1 : wr.cell? ⟨ab, off + k * 7 + 1, none⟩ = some (.int .i64 lba) := cell 1 _ rfl (by decide)
          have c2 : wr.cell? ⟨ab, off + k * 7 + 2, none⟩ = some (.int .i64 f) := cell 2 _ rfl (by decide)
          have c3 : wr.cell? ⟨ab, off + k * 7 + 3, none⟩ = some (.int .i64 t) := cell 3 _ rfl (by decide)
          have c4 : wr.cell? ⟨ab, off + k * 7 + 4, none⟩ = some (.int .i64 ea) := cell 4 _ rfl (by decide)
          have c5 : wr.cell? ⟨ab, off + k * 7 + 5, none⟩ = some (.int .i64 es) := cell 5 _ rfl (by decide)
          have c6 : wr.cell? ⟨ab, off + k * 7 + 6, none⟩ = some (.int .i64 ek) := cell 6 _ rfl (by decide)
          clear cell hc hF
          have hk0 : (0 : Int) ≤ k := by omega
          have hkl2 : (k : Int) < len0 := by omega
          by_cases hd4 : d = 0 ∨ d = 1 ∨ d = 2 ∨ d = 3
          · have HLEN := Lib.hid ((setTo_len ⟨c, l, b, p, s⟩ to lba ⟨ea, es, ek⟩).trans hto)
            rcases hd4 with rfl | rfl | rfl | rfl
            all_goals
              go_wp2_with fail
              refine wp_region_b 11 (by kernel_rfl) (by kernel_rfl) ?_
              simp only [List.take_succ_cons, List.take_zero, List.drop_succ_cons, List.drop_zero]
              repeat (first
                | (refine SeqC.run (v := ?_) ?_ (fun wz hz => ?_) ?_; rotate_left; (· rfl); (· have hzc := hz.cell; have hzf := hz.frozen; go_simp; first | exact UponS.value hz | exact UponS.skip hz | (refine UponS.call ?_; fail)); (try simp only [Act.put, List.setIfInBounds_toArray, List.set_cons_zero, List.set_cons_succ]))
                | (refine SeqC.skip ?_ ?_; (· rfl); (try simp only [Act.put, List.setIfInBounds_toArray, List.set_cons_zero, List.set_cons_succ])))
              refine fun wz hz => ?_
              have hzM := HMr.out.sinceD hz
              (go_wp2_with fail); refine (mapSet_any hzM lba ⟨ea, es, ek⟩).mono ?_
              intro e2 w3 hp
              obtain ⟨e2, hm2, ho2⟩ := hp
              subst e2
              have HM3 := Lib.hid hm2
              have HX3 := Lib.hid ((HXr.out.since hz).only ho2 (.inl hXB))
              have HB3 := Lib.hid ((HBr.out.drew.trans (hz.below.mono HBr.out.size)).trans (ho2.below HB2s (HBr.out.drew.trans (hz.below.mono HBr.out.size)).size))
              clear hm2 ho2 hz hzM
              go_wp2_with fail
              go_roundw
              case rel => exact ⟨k + 1, _, by omega, by go_num, HLEN.out, HM3.out, HX3.out, HB3.out⟩
              case measure => simp [intOf]; omega
          · by_cases hd5 : d = 4 ∨ d = 5
            · have HLEN := Lib.hid ((moveTo_len ⟨c, l, b, p, s⟩ to lba f t).trans hto)
              clear hd4
              rcases hd5 with rfl | rfl
              all_goals
                go_wp2_with fail
                refine wp_region_b 16 (by kernel_rfl) (by kernel_rfl) ?_
                simp only [List.take_succ_cons, List.take_zero, List.drop_succ_cons, List.drop_zero]
                repeat (first
                  | (refine SeqC.run (v := ?_) ?_ (fun wz hz => ?_) ?_; rotate_left; (· rfl); (· have hzc := hz.cell; have hzf := hz.frozen; go_simp; first | exact UponS.value hz | exact UponS.skip hz | (refine UponS.call ?_; fail)); (try simp only [Act.put, List.setIfInBounds_toArray, List.set_cons_zero, List.set_cons_succ]))
                  | (refine SeqC.skip ?_ ?_; (· rfl); (try simp only [Act.put, List.setIfInBounds_toArray, List.set_cons_zero, List.set_cons_succ])))
                refine fun wz hz => ?_
                have hzM := HMr.out.sinceD hz
                (go_wp2_with fail); refine (mapMove_any hzM lba f t).mono ?_
                intro e2 w3 hp
                obtain ⟨e2, hm2, ho2⟩ := hp
                subst e2
                have HM3 := Lib.hid hm2
                have HX3 := Lib.hid ((HXr.out.since hz).only ho2 (.inl hXB))
                have HB3 := Lib.hid ((HBr.out.drew.trans (hz.below.mono HBr.out.size)).trans (ho2.below HB2s (HBr.out.drew.trans (hz.below.mono HBr.out.size)).size))
                clear hm2 ho2 hz hzM
                go_wp2_with fail
                go_roundw
                case rel => exact ⟨k + 1, _, by omega, by go_num, HLEN.out, HM3.out, HX3.out, HB3.out⟩
                case measure => simp [intOf]; omega
            · have e0 : (d == 0) = false := by rw [beq_eq_false_iff_ne]; omega
              have e1 : (d == 1) = false := by rw [beq_eq_false_iff_ne]; omega
              have e2 : (d == 2) = false := by rw [beq_eq_false_iff_ne]; omega
              have e3 : (d == 3) = false := by rw [beq_eq_false_iff_ne]; omega
              have e4 : (d == 4) = false := by rw [beq_eq_false_iff_ne]; omega
              have e5 : (d == 5) = false := by rw [beq_eq_false_iff_ne]; omega
              clear hd4 hd5
              go_wp2_with fail
              go_roundw
              case rel => exact ⟨k + 1, to, by omega, by go_num, hto, HMr.out, HXr.out, HBr.out⟩
              case measure => simp [intOf]; omega
      · have hex : ¬ k < len0 ∨ (k < len0 ∧ ¬ k < 60) := by omega
        clear hgo
        rcases hex with h1 | ⟨h1, h2⟩
        all_goals
          have hCr := HMr.out.raw.top
          have hbw : Below wr.heap.size wr (wr.alloc (.cells (List.replicate 18 (Value.int .i64 0)).toArray 64)) := (Below.refl wr.heap.size wr).alloc (Nat.le_refl _) _
          have HMa := Lib.hid (HMr.out.below hbw)
          have HXa := Lib.hid (HXr.out.below hbw)
          have HBa := Lib.hid (HBr.out.trans (hbw.mono HBr.out.size))
          have HWa := Lib.hid (was_new (to := to) (Blk.new wr 64 (List.replicate 18 (Value.int .i64 0))))
          have hBr := HBr.out.size
          clear hbw
          go_wp2_with fail
          generalize hwb : wr.heap.size = wb at HWa hCr hBr ⊢
          go_loopw [12] (fun t wr => ∃ i : Nat, i ≤ 6 ∧ t = .int .i64 i ∧ Hid (MapAt wr B C m ⟨c, l, b, p, s⟩ to kt kw vb st' sw) ∧ Hid (Blk wr (w.heap.size + 1) 57 [.int .i64 od, .int .i64 olba, .int .i64 of_, .int .i64 ot, .int .i64 oea, .int .i64 oes, .int .i64 oek]) ∧ Hid (Was wr wb i to) ∧ Hid (Below w.heap.size w wr)) (fun t _ => ((6 : Int) - intOf t).toNat)
          case atStart => exact ⟨0, by decide, rfl, HMa.out, HXa.out, HWa.out, HBa.out⟩
          case round =>
            clear HMr HXr HBr
            obtain ⟨i, hi, rfl, HM2, HX2, HWs, HB2⟩ := hrel
            by_cases hl2 : i < 6
            · obtain ⟨x, hx⟩ : ∃ x, to[i]? = some x := ⟨_, List.getElem?_eq_getElem (by omega)⟩
              (go_wp2_with fail); refine (mapGet_any HM2.out i x hx).mono ?_
              rintro e wg ⟨rfl, hb⟩
              have hwg := HWs.out.below hb
              have q0 : At wg wb (i * 3) _ := hwg i 0 hl2 (by decide)
              have q1 : At wg wb (i * 3 + 1) _ := hwg i 1 hl2 (by decide)
              have q2 : At wg wb (i * 3 + 2) _ := hwg i 2 hl2 (by decide)
              obtain ⟨q0c, q0f⟩ := q0
              obtain ⟨q1c, q1f⟩ := q1
              obtain ⟨q2c, q2f⟩ := q2
              have HWn := Lib.hid (hwg.step hx)
              have HMn := Lib.hid ((HM2.out.below hb).only (((Only.refl wb (wb + 1) wg).setCell (p := ⟨wb, i * 3, none⟩) ⟨Nat.le_refl _, Nat.lt_succ_self _⟩ (.int .i64 x.a)).setCell (p := ⟨wb, i * 3 + 1, none⟩) ⟨Nat.le_refl _, Nat.lt_succ_self _⟩ (.int .i64 x.s) |>.setCell (p := ⟨wb, i * 3 + 2, none⟩) ⟨Nat.le_refl _, Nat.lt_succ_self _⟩ (.int .i64 x.k)) (.inl hCr))
              have hwx : w.heap.size + 1 ≠ wb := by have := HM2.out.raw.inM; omega
              have HXn := Lib.hid ((((HX2.out.below hb).set_other (a := ⟨wb, i * 3, none⟩) hwx (.int .i64 x.a)).set_other (a := ⟨wb, i * 3 + 1, none⟩) hwx (.int .i64 x.s)).set_other (a := ⟨wb, i * 3 + 2, none⟩) hwx (.int .i64 x.k))
              have HBn := Lib.hid ((((HB2.out.trans (hb.mono HB2.out.size)).setCell (p := ⟨wb, i * 3, none⟩) hBr (.int .i64 x.a)).setCell (p := ⟨wb, i * 3 + 1, none⟩) hBr (.int .i64 x.s)).setCell (p := ⟨wb, i * 3 + 2, none⟩) hBr (.int .i64 x.k))
              obtain ⟨xa, xs, xk⟩ := x
              simp only at HWn HMn HXn HBn
              simp only [Ent.v]
              have hi0 : (0 : Int) ≤ i := by omega
              have hi6 : (i : Int) < 6 := by omega
              clear hb hwg
              go_wp2_with fail
              go_roundw
              case rel => exact ⟨i + 1, by omega, by go_num, HMn.out, HXn.out, HWn.out, HBn.out⟩
              case measure => simp [intOf]; omega
            · obtain rfl : i = 6 := by omega
              have hxb := HX2.out
              have y0 : wr.cell? ⟨w.heap.size + 1, 0, none⟩ = some (.int .i64 od) := hxb.cell 0
              have y1 : wr.cell? ⟨w.heap.size + 1, 1, none⟩ = some (.int .i64 olba) := hxb.cell 1
              have y2 : wr.cell? ⟨w.heap.size + 1, 2, none⟩ = some (.int .i64 of_) := hxb.cell 2
              have y3 : wr.cell? ⟨w.heap.size + 1, 3, none⟩ = some (.int .i64 ot) := hxb.cell 3
              have y4 : wr.cell? ⟨w.heap.size + 1, 4, none⟩ = some (.int .i64 oea) := hxb.cell 4
              have y5 : wr.cell? ⟨w.heap.size + 1, 5, none⟩ = some (.int .i64 oes) := hxb.cell 5
              have y6 : wr.cell? ⟨w.heap.size + 1, 6, none⟩ = some (.int .i64 oek) := hxb.cell 6
              have hyl := hxb.lt
              have hyl5 : w.heap.size < wr.heap.size := by omega
              have hyl6 : ¬ w.heap.size = wr.heap.size := by omega
              clear hxb
              by_cases hod : od < 4
              · (go_wp2_with fail); refine (mapSet_any HM2.out olba ⟨oea, oes, oek⟩).mono ?_
                intro e w3 hp
                have hcs := setTo_cases ⟨c, l, b, p, s⟩ to olba ⟨oea, oes, oek⟩
                obtain ⟨hp1, hm, ho⟩ := hp
                generalize (setTo ⟨c, l, b, p, s⟩ to olba ⟨oea, oes, oek⟩) = R at hcs hm hp1
                subst hp1
                obtain ⟨D, E0, to2⟩ := R
                simp only at hcs hm
                have HM3 := Lib.hid hm
                have HX3 := Lib.hid (HX2.out.only ho (.inl hXB))
                have HW3 := Lib.hid (HWs.out.only ho (.inr hCr))
                have HB3 := Lib.hid (HB2.out.trans (ho.below HB2s HB2.out.size))
                have HLN : Hid (to2.length = 6) := by
                  rcases hcs with ⟨_, h⟩ | ⟨_, _, h⟩ <;> rw [h]
                  · exact hto
                  · show List.length _ = 6
                    rw [List.length_set]; exact hto
                have HCS := Lib.hid hcs
                have HTO := Lib.hid hto
                clear hcs hm ho y0 y1 y2 y3 y4 y5 y6 hyl hyl5 hyl6 HM2 HX2 HWs HB2 hto
                simp only []
                go_wp2_with fail
                go_loopw [14] (fun t wr => ∃ i : Nat, i ≤ 6 ∧ t = .int .i64 i ∧ Hid (MapAt wr B C m ⟨c, l, b, p, s⟩ to2 kt kw vb st' sw) ∧ Hid (Blk wr (w.heap.size + 1) 57 [.int .i64 od, .int .i64 olba, .int .i64 of_, .int .i64 ot, .int .i64 oea, .int .i64 oes, .int .i64 oek]) ∧ Hid (Was wr wb 6 to) ∧ Hid (Below w.heap.size w wr)) (fun t _ => ((6 : Int) - intOf t).toNat)
                case atStart => exact ⟨0, by decide, rfl, HM3.out, HX3.out, HW3.out, HB3.out⟩
                case round =>
                  obtain ⟨i, hi, rfl, HM4, HX4, HW4, HB4⟩ := hrel
                  by_cases hl3 : i < 6
                  · obtain ⟨x2, hx2⟩ : ∃ x, to2[i]? = some x := ⟨_, List.getElem?_eq_getElem (by rw [HLN.out]; exact hl3)⟩
                    obtain ⟨x, hx⟩ : ∃ x, to[i]? = some x := ⟨_, List.getElem?_eq_getElem (by rw [HTO.out]; exact hl3)⟩
                    have HXE : Hid ((D = false ∧ x2 = x) ∨ (D = true ∧ (olba = i → x2 = ⟨oea, oes, oek⟩) ∧ (olba ≠ i → x2 = x))) := by
                      have hgx : to.getD i Ent.none = x := by rw [List.getD_eq_getElem?_getD, hx]; rfl
                      rcases HCS.out with ⟨h1, h2⟩ | ⟨h1, h3, h2⟩
                      · exact .inl ⟨h1, by rw [h2, hx] at hx2; exact (Option.some.inj hx2).symm⟩
                      · refine .inr ⟨h1, fun h => ?_, fun h => ?_⟩
                        · subst h
                          rw [h2, List.getElem?_set, if_pos (by simp), if_pos (by simp; rw [HTO.out]; exact hl3)] at hx2
                          have := (Option.some.inj hx2).symm
                          rw [this]
                          try simp [hx]
                        · rw [h2, List.getElem?_set, if_neg (by omega), hx] at hx2
                          exact (Option.some.inj hx2).symm
                    (go_wp2_with fail); refine (mapGet_any HM4.out i x2 hx2).mono ?_
                    rintro e wg ⟨rfl, hb⟩
                    have HMg := Lib.hid (HM4.out.below hb)
                    have HXg := Lib.hid (HX4.out.below hb)
                    have HWg := Lib.hid (HW4.out.below hb)
                    have HBg := Lib.hid (HB4.out.trans (hb.mono HB4.out.size))
                    obtain ⟨z0, z1, z2⟩ := HWg.out.get hl3 hx
                    have hzl := World.block_lt_of_cell? wg _ z0
                    have hxb := HXg.out
                    have y0 : wg.cell? ⟨w.heap.size + 1, 0, none⟩ = some (.int .i64 od) := hxb.cell 0
                    have y1 : wg.cell? ⟨w.heap.size + 1, 1, none⟩ = some (.int .i64 olba) := hxb.cell 1
                    have y2 : wg.cell? ⟨w.heap.size + 1, 2, none⟩ = some (.int .i64 of_) := hxb.cell 2
                    have y3 : wg.cell? ⟨w.heap.size + 1, 3, none⟩ = some (.int .i64 ot) := hxb.cell 3
                    have y4 : wg.cell? ⟨w.heap.size + 1, 4, none⟩ = some (.int .i64 oea) := hxb.cell 4
                    have y5 : wg.cell? ⟨w.heap.size + 1, 5, none⟩ = some (.int .i64 oes) := hxb.cell 5
                    have y6 : wg.cell? ⟨w.heap.size + 1, 6, none⟩ = some (.int .i64 oek) := hxb.cell 6
                    have hyl := hxb.lt
                    have hyl5 : w.heap.size < wg.heap.size := by omega
                    have hyl6 : ¬ w.heap.size = wg.heap.size := by omega
                    clear hxb
                    obtain ⟨xa, xs, xk⟩ := x2
                    obtain ⟨va, vs, vk⟩ := x
                    simp only at z0 z1 z2
                    simp only [Ent.v]
                    have hi0 : (0 : Int) ≤ i := by omega
                    have hi6 : (i : Int) < 6 := by omega
                    clear hb HM4 HX4 HW4 HB4 hx2 hx
                    rcases HXE.out with ⟨rfl, he⟩ | ⟨rfl, he1, he2⟩
                    · injection he with q1 q2 q3
                      subst q1 q2 q3
                      clear HXE
                      go_wp2_with fail
                      go_roundw
                      case rel => exact ⟨i + 1, by omega, by go_num, (HMg.out.below ((Below.refl wg.heap.size wg).alloc (Nat.le_refl _) _)).below ((Below.refl _ _).alloc (Nat.le_refl _) _), (HXg.out.alloc _).alloc _, (HWg.out.below ((Below.refl wg.heap.size wg).alloc (Nat.le_refl _) _)).below ((Below.refl _ _).alloc (Nat.le_refl _) _), (HBg.out.alloc HBg.out.size _).alloc (Nat.le_trans HBg.out.size (by simp)) _⟩
                      case measure => simp [intOf]; omega
                    · by_cases hio : olba = i
                      · have he := he1 hio
                        injection he with q1 q2 q3
                        subst q1 q2 q3
                        subst hio
                        clear he1 he2 HXE
                        go_wp2_with fail
                        go_roundw
                        case rel => exact ⟨i + 1, by omega, by go_num, (HMg.out.below ((Below.refl wg.heap.size wg).alloc (Nat.le_refl _) _)).below ((Below.refl _ _).alloc (Nat.le_refl _) _), (HXg.out.alloc _).alloc _, (HWg.out.below ((Below.refl wg.heap.size wg).alloc (Nat.le_refl _) _)).below ((Below.refl _ _).alloc (Nat.le_refl _) _), (HBg.out.alloc HBg.out.size _).alloc (Nat.le_trans HBg.out.size (by simp)) _⟩
                        case measure => simp [intOf]; omega
                      · have he := he2 hio
                        injection he with q1 q2 q3
                        subst q1 q2 q3
                        have hib : ((i : Int) == olba) = false := by rw [beq_eq_false_iff_ne]; exact fun h => hio h.symm
                        clear he1 he2 HXE hio
                        go_wp2_with fail
                        go_roundw
                        case rel => exact ⟨i + 1, by omega, by go_num, (HMg.out.below ((Below.refl wg.heap.size wg).alloc (Nat.le_refl _) _)).below ((Below.refl _ _).alloc (Nat.le_refl _) _), (HXg.out.alloc _).alloc _, (HWg.out.below ((Below.refl wg.heap.size wg).alloc (Nat.le_refl _) _)).below ((Below.refl _ _).alloc (Nat.le_refl _) _), (HBg.out.alloc HBg.out.size _).alloc (Nat.le_trans HBg.out.size (by simp)) _⟩
                        case measure => simp [intOf]; omega
                  · obtain rfl : i = 6 := by omega
                    have hxb := HX4.out
                    have y0 : wr.cell? ⟨w.heap.size + 1, 0, none⟩ = some (.int .i64 od) := hxb.cell 0
                    have y1 : wr.cell? ⟨w.heap.size + 1, 1, none⟩ = some (.int .i64 olba) := hxb.cell 1
                    have y2 : wr.cell? ⟨w.heap.size + 1, 2, none⟩ = some (.int .i64 of_) := hxb.cell 2
                    have y3 : wr.cell? ⟨w.heap.size + 1, 3, none⟩ = some (.int .i64 ot) := hxb.cell 3
                    have y4 : wr.cell? ⟨w.heap.size + 1, 4, none⟩ = some (.int .i64 oea) := hxb.cell 4
                    have y5 : wr.cell? ⟨w.heap.size + 1, 5, none⟩ = some (.int .i64 oes) := hxb.cell 5
                    have y6 : wr.cell? ⟨w.heap.size + 1, 6, none⟩ = some (.int .i64 oek) := hxb.cell 6
                    have hyl := hxb.lt
                    have hyl5 : w.heap.size < wr.heap.size := by omega
                    have hyl6 : ¬ w.heap.size = wr.heap.size := by omega
                    clear hxb
                    rcases HCS.out with ⟨rfl, _⟩ | ⟨rfl, h1, _⟩
                    · go_wp2_with fail
                      go_ret
                      exact ⟨ret_bool (by simp), HB4.out⟩
                    · rw [HTO.out] at h1
                      obtain ⟨h1, h2⟩ := h1
                      have h3 : olba < 6 := h2
                      clear h2
                      go_wp2_with fail
                      go_ret
                      exact ⟨ret_bool (by simp), HB4.out⟩
              · (go_wp2_with fail); refine (mapMove_any HM2.out olba of_ ot).mono ?_
                intro e w3 hp
                have hcs := moveTo_cases ⟨c, l, b, p, s⟩ to olba of_ ot
                obtain ⟨hp1, hm, ho⟩ := hp
                generalize (moveTo ⟨c, l, b, p, s⟩ to olba of_ ot) = R at hcs hm hp1
                subst hp1
                obtain ⟨D, E0, to2⟩ := R
                simp only at hcs hm
                have HM3 := Lib.hid hm
                have HX3 := Lib.hid (HX2.out.only ho (.inl hXB))
                have HW3 := Lib.hid (HWs.out.only ho (.inr hCr))
                have HB3 := Lib.hid (HB2.out.trans (ho.below HB2s HB2.out.size))
                have HLN : Hid (to2.length = 6) := by
                  rcases hcs with ⟨_, h⟩ | ⟨_, _, h⟩ <;> rw [h]
                  · exact hto
                  · show List.length _ = 6
                    rw [List.length_set]; exact hto
                have HCS := Lib.hid hcs
                have HTO := Lib.hid hto
                clear hcs hm ho y0 y1 y2 y3 y4 y5 y6 hyl hyl5 hyl6 HM2 HX2 HWs HB2 hto
                simp only []
                go_wp2_with fail
                go_loopw [14] (fun t wr => ∃ i : Nat, i ≤ 6 ∧ t = .int .i64 i ∧ Hid (MapAt wr B C m ⟨c, l, b, p, s⟩ to2 kt kw vb st' sw) ∧ Hid (Blk wr (w.heap.size + 1) 57 [.int .i64 od, .int .i64 olba, .int .i64 of_, .int .i64 ot, .int .i64 oea, .int .i64 oes, .int .i64 oek]) ∧ Hid (Was wr wb 6 to) ∧ Hid (Below w.heap.size w wr)) (fun t _ => ((6 : Int) - intOf t).toNat)
                case atStart => exact ⟨0, by decide, rfl, HM3.out, HX3.out, HW3.out, HB3.out⟩
                case round =>
                  obtain ⟨i, hi, rfl, HM4, HX4, HW4, HB4⟩ := hrel
                  by_cases hl3 : i < 6
                  · obtain ⟨x2, hx2⟩ : ∃ x, to2[i]? = some x := ⟨_, List.getElem?_eq_getElem (by rw [HLN.out]; exact hl3)⟩
                    obtain ⟨x, hx⟩ : ∃ x, to[i]? = some x := ⟨_, List.getElem?_eq_getElem (by rw [HTO.out]; exact hl3)⟩
                    have HXE : Hid ((D = false ∧ x2 = x) ∨ (D = true ∧ (olba = i → x2 = { x with a := ot }) ∧ (olba ≠ i → x2 = x))) := by
                      have hgx : to.getD i Ent.none = x := by rw [List.getD_eq_getElem?_getD, hx]; rfl
                      rcases HCS.out with ⟨h1, h2⟩ | ⟨h1, h3, h2⟩
                      · exact .inl ⟨h1, by rw [h2, hx] at hx2; exact (Option.some.inj hx2).symm⟩
                      · refine .inr ⟨h1, fun h => ?_, fun h => ?_⟩
                        · subst h
                          rw [h2, List.getElem?_set, if_pos (by simp), if_pos (by simp; rw [HTO.out]; exact hl3)] at hx2
                          have := (Option.some.inj hx2).symm
                          rw [this]
                          try simp [hx]
                        · rw [h2, List.getElem?_set, if_neg (by omega), hx] at hx2
                          exact (Option.some.inj hx2).symm
                    (go_wp2_with fail); refine (mapGet_any HM4.out i x2 hx2).mono ?_
                    rintro e wg ⟨rfl, hb⟩
                    have HMg := Lib.hid (HM4.out.below hb)
                    have HXg := Lib.hid (HX4.out.below hb)
                    have HWg := Lib.hid (HW4.out.below hb)
                    have HBg := Lib.hid (HB4.out.trans (hb.mono HB4.out.size))
                    obtain ⟨z0, z1, z2⟩ := HWg.out.get hl3 hx
                    have hzl := World.block_lt_of_cell? wg _ z0
                    have hxb := HXg.out
                    have y0 : wg.cell? ⟨w.heap.size + 1, 0, none⟩ = some (.int .i64 od) := hxb.cell 0
                    have y1 : wg.cell? ⟨w.heap.size + 1, 1, none⟩ = some (.int .i64 olba) := hxb.cell 1
                    have y2 : wg.cell? ⟨w.heap.size + 1, 2, none⟩ = some (.int .i64 of_) := hxb.cell 2
                    have y3 : wg.cell? ⟨w.heap.size + 1, 3, none⟩ = some (.int .i64 ot) := hxb.cell 3
                    have y4 : wg.cell? ⟨w.heap.size + 1, 4, none⟩ = some (.int .i64 oea) := hxb.cell 4
                    have y5 : wg.cell? ⟨w.heap.size + 1, 5, none⟩ = some (.int .i64 oes) := hxb.cell 5
                    have y6 : wg.cell? ⟨w.heap.size + 1, 6, none⟩ = some (.int .i64 oek) := hxb.cell 6
                    have hyl := hxb.lt
                    have hyl5 : w.heap.size < wg.heap.size := by omega
                    have hyl6 : ¬ w.heap.size = wg.heap.size := by omega
                    clear hxb
                    obtain ⟨xa, xs, xk⟩ := x2
                    obtain ⟨va, vs, vk⟩ := x
                    simp only at z0 z1 z2
                    simp only [Ent.v]
                    have hi0 : (0 : Int) ≤ i := by omega
                    have hi6 : (i : Int) < 6 := by omega
                    clear hb HM4 HX4 HW4 HB4 hx2 hx
                    rcases HXE.out with ⟨rfl, he⟩ | ⟨rfl, he1, he2⟩
                    · injection he with q1 q2 q3
                      subst q1 q2 q3
                      clear HXE
                      go_wp2_with fail
                      go_roundw
                      case rel => exact ⟨i + 1, by omega, by go_num, (HMg.out.below ((Below.refl wg.heap.size wg).alloc (Nat.le_refl _) _)).below ((Below.refl _ _).alloc (Nat.le_refl _) _), (HXg.out.alloc _).alloc _, (HWg.out.below ((Below.refl wg.heap.size wg).alloc (Nat.le_refl _) _)).below ((Below.refl _ _).alloc (Nat.le_refl _) _), (HBg.out.alloc HBg.out.size _).alloc (Nat.le_trans HBg.out.size (by simp)) _⟩
                      case measure => simp [intOf]; omega
                    · by_cases hio : olba = i
                      · have he := he1 hio
                        injection he with q1 q2 q3
                        subst q1 q2 q3
                        subst hio
                        clear he1 he2 HXE
                        go_wp2_with fail
                        go_roundw
                        case rel => exact ⟨i + 1, by omega, by go_num, (HMg.out.below ((Below.refl wg.heap.size wg).alloc (Nat.le_refl _) _)).below ((Below.refl _ _).alloc (Nat.le_refl _) _), (HXg.out.alloc _).alloc _, (HWg.out.below ((Below.refl wg.heap.size wg).alloc (Nat.le_refl _) _)).below ((Below.refl _ _).alloc (Nat.le_refl _) _), (HBg.out.alloc HBg.out.size _).alloc (Nat.le_trans HBg.out.size (by simp)) _⟩
                        case measure => simp [intOf]; omega
                      · have he := he2 hio
                        injection he with q1 q2 q3
                        subst q1 q2 q3
                        have hib : ((i : Int) == olba) = false := by rw [beq_eq_false_iff_ne]; exact fun h => hio h.symm
                        clear he1 he2 HXE hio
                        go_wp2_with fail
                        go_roundw
                        case rel => exact ⟨i + 1, by omega, by go_num, (HMg.out.below ((Below.refl wg.heap.size wg).alloc (Nat.le_refl _) _)).below ((Below.refl _ _).alloc (Nat.le_refl _) _), (HXg.out.alloc _).alloc _, (HWg.out.below ((Below.refl wg.heap.size wg).alloc (Nat.le_refl _) _)).below ((Below.refl _ _).alloc (Nat.le_refl _) _), (HBg.out.alloc HBg.out.size _).alloc (Nat.le_trans HBg.out.size (by simp)) _⟩
                        case measure => simp [intOf]; omega
                  · obtain rfl : i = 6 := by omega
                    have hxb := HX4.out
                    have y0 : wr.cell? ⟨w.heap.size + 1, 0, none⟩ = some (.int .i64 od) := hxb.cell 0
                    have y1 : wr.cell? ⟨w.heap.size + 1, 1, none⟩ = some (.int .i64 olba) := hxb.cell 1
                    have y2 : wr.cell? ⟨w.heap.size + 1, 2, none⟩ = some (.int .i64 of_) := hxb.cell 2
                    have y3 : wr.cell? ⟨w.heap.size + 1, 3, none⟩ = some (.int .i64 ot) := hxb.cell 3
                    have y4 : wr.cell? ⟨w.heap.size + 1, 4, none⟩ = some (.int .i64 oea) := hxb.cell 4
                    have y5 : wr.cell? ⟨w.heap.size + 1, 5, none⟩ = some (.int .i64 oes) := hxb.cell 5
                    have y6 : wr.cell? ⟨w.heap.size + 1, 6, none⟩ = some (.int .i64 oek) := hxb.cell 6
                    have hyl := hxb.lt
                    have hyl5 : w.heap.size < wr.heap.size := by omega
                    have hyl6 : ¬ w.heap.size = wr.heap.size := by omega
                    clear hxb
                    rcases HCS.out with ⟨rfl, _⟩ | ⟨rfl, h1, _⟩
                    · go_wp2_with fail
                      go_ret
                      exact ⟨ret_bool (by simp), HB4.out⟩
                    · rw [HTO.out] at h1
                      obtain ⟨h1, h2⟩ := h1
                      have h3 : olba < 6 := h2
                      clear h2
                      go_wp2_with fail
                      go_ret
                      exact ⟨ret_bool (by simp), HB4.out⟩
  · obtain ⟨hb, rfl⟩ := newPost_no hp (by simpa using hno)
    have HB2 := Lib.hid (HB1.out.trans (hb.mono HB1.out.size))
    clear hp hb
    go_wp2_with fail
    go_ret
    exact ⟨rfl, HB2.out⟩

end Go.Proofs.Ytbfpnpoafepjjaa
