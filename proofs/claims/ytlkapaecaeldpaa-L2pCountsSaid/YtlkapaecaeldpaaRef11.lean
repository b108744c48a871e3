/-
  Package strakeref11: New.
-/
import Derived.Test.YtlkapaecaeldpaaL2pV
import Derived.Test.YtlkapaecaeldpaaRef03
set_option linter.unusedVariables false
set_option linter.unusedSimpArgs false
set_option maxRecDepth 16384
namespace Go.Proofs.Ytlkapaecaeldpaa
open Go.RowKit

def Ent.l (e : Ent) : List Value := [.int .i64 e.a, .int .i64 e.s, .int .i64 e.k]
def entC (to : List Ent) : List Value := to.flatMap Ent.l

/-- the document's map: a block of its own, and the entries in a row -/
structure RefAt (w : World) (B r : Nat) (g : Geo) (to : List Ent) (v : Value) : Prop where
  blk : Blk w r 123 [.int .i64 g.chans, .int .i64 g.luns, .int .i64 g.blocks, .int .i64 g.pages, .int .i64 g.sectors, v]
  row : w.ownsRow (r + 1) 32 3 v to.length (entC to)
  base : B ≤ r

theorem RefAt.below {w w' : World} {B r : Nat} {g : Geo} {to : List Ent} {v : Value} (h : RefAt w B r g to v) (hb : Below w.heap.size w w') : RefAt w' B r g to v := ⟨h.blk.below hb, own_below h.row hb, h.base⟩

theorem entC_length (to : List Ent) : (entC to).length = to.length * 3 := by
  unfold entC
  induction to with
  | nil => rfl
  | cons e to ih => rw [List.flatMap_cons, List.length_append, ih, List.length_cons]; simp [Ent.l]; omega
theorem entC_get : ∀ {to : List Ent} {i : Nat} {e : Ent}, to[i]? = some e → ∀ j, j < 3 → (entC to)[i * 3 + j]? = e.l[j]?
  | [], i, e, h, _, _ => by simp at h
  | x :: to, 0, e, h, j, hj => by
    simp only [List.getElem?_cons_zero, Option.some.injEq] at h
    subst h
    unfold entC
    rw [List.flatMap_cons, Nat.zero_mul, Nat.zero_add, List.getElem?_append_left (by simp [Ent.l]; omega)]
  | x :: to, i + 1, e, h, j, hj => by
    simp only [List.getElem?_cons_succ] at h
    have := entC_get h j hj
    unfold entC at *
    rw [List.flatMap_cons, List.getElem?_append_right (by simp [Ent.l]; omega)]
    rw [show (i + 1) * 3 + j - x.l.length = i * 3 + j by simp [Ent.l]; omega]
    exact this

/-- an entry's cells -/
theorem RefAt.get {w : World} {B r : Nat} {g : Geo} {to : List Ent} {v : Value} (h : RefAt w B r g to v) {i : Nat} {e : Ent} (hi : to[i]? = some e) :
    ∃ b cap, v = .slice (some ⟨b, 0, none⟩) to.length cap ∧ b < w.heap.size ∧ w.cell? ⟨b, i * 3, none⟩ = some (.int .i64 e.a) ∧ w.cell? ⟨b, i * 3 + 1, none⟩ = some (.int .i64 e.s) ∧ w.cell? ⟨b, i * 3 + 2, none⟩ = some (.int .i64 e.k) := by
  have hlt := (List.getElem?_eq_some_iff.1 hi).1
  rcases h.row.2 with ⟨_, h0⟩ | ⟨b, cap, cur, h1, h2, h3, h4, h5, h6, h7⟩
  · omega
  · have cell : ∀ j, j < 3 → w.cell? ⟨b, i * 3 + j, none⟩ = e.l[j]? := fun j hj => by
      have hx := entC_get hi j hj
      rw [← h7, List.getElem?_take, if_pos (by omega)] at hx
      rw [← hx]
      simp [World.cell?, h3]
    exact ⟨b, cap, h1, (Array.getElem?_eq_some_iff.1 h3).1, cell 0 (by decide), cell 1 (by decide), cell 2 (by decide)⟩

/-- how the document's New ends -/
def RefNewPost (g : Geo) (n : Int) (w : World) (e : Ending) (w' : World) : Prop :=
  Below w.heap.size w w' ∧
    (if newOk g n = true then ∃ r v, e = .returned (.tuple #[.pointer (some ⟨r, 0, none⟩), .int .i64 0]) ∧ RefAt w' w.heap.size r g (List.replicate n.toNat Ent.none) v
      else e = .returned (.tuple #[.pointer none, .int .i64 1]))

set_option maxHeartbeats 2000000 in
theorem ref11New_any (g : Geo) (n : Int) (w : World) (hg : g.Wf) (hn : IsInt n) :
    Calls Try.prog 65 #[g.v, .int .i64 n] w fun e w' => RefNewPost g n w e w' := by
  have HW := Lib.hid hg
  have HNB : Hid (newOk g n = decide (g.okB = true ∧ 1 ≤ n ∧ n ≤ 4096 ∧ n ≤ g.all)) := Lib.hid rfl
  obtain ⟨n1, n2⟩ := hn
  by_cases hok : g.okB = true
  · have HK := Lib.hid hok
    have hA9 : g.all ≤ 65536 := by
      have hg := Geo.ok_of hok
      obtain ⟨m1, m2, m3, m4, m5, m6, m7, m8, m9, m10⟩ := geo_mul hg.c.1 hg.c.2 hg.l.1 hg.l.2 hg.b.1 hg.b.2 hg.p.1 hg.p.2 hg.s.1 hg.s.2
      exact m8
    have HA : Hid (∀ wy, Calls Try.prog 108 #[g.v] wy fun e w' => e = .returned (.int .i64 g.all) ∧ Below wy.heap.size wy w') := by
      intro wy
      have := ref03All_any g wy
      unfold Geo.allI at this
      rwa [if_pos hok] at this
    obtain ⟨A, hA⟩ : ∃ A, g.all = A := ⟨_, rfl⟩
    have HAE := Lib.hid hA
    rw [hA] at HA hA9
    clear hok hg hA
    obtain ⟨c, l, b, p, s⟩ := g
    have HG := Lib.hid (Blk.new w 23 [.int .i64 c, .int .i64 l, .int .i64 b, .int .i64 p, .int .i64 s])
    unfold Geo.v at HA ⊢
    go_enter Try.func65, Try.ntmps65
    (go_wp2_with fail); refine (ref03Right_any ⟨c, l, b, p, s⟩ _).mono ?_
    rintro e w1 ⟨rfl, hb⟩
    rw [HK.out]
    have hk := HG.out.below hb; have k0 : w1.cell? ⟨w.heap.size, 0, none⟩ = some (.int .i64 c) := hk.cell 0; have k1 : w1.cell? ⟨w.heap.size, 1, none⟩ = some (.int .i64 l) := hk.cell 1; have k2 : w1.cell? ⟨w.heap.size, 2, none⟩ = some (.int .i64 b) := hk.cell 2; have k3 : w1.cell? ⟨w.heap.size, 3, none⟩ = some (.int .i64 p) := hk.cell 3; have k4 : w1.cell? ⟨w.heap.size, 4, none⟩ = some (.int .i64 s) := hk.cell 4; have hltk := hk.lt
    have HG1 := Lib.hid hk
    have HB1 := Lib.hid (((Below.refl w.heap.size w).alloc (Nat.le_refl _) _).trans (hb.mono (by simp)))
    clear hb hk
    by_cases h1 : n < 1
    · go_wp2_with fail
      go_ret2
      refine ⟨HB1.out, ?_⟩
      rw [if_neg (by rw [HNB.out]; simp; omega)]; rfl
    by_cases h2 : 4096 < n
    · go_wp2_with fail
      go_ret2
      refine ⟨HB1.out, ?_⟩
      rw [if_neg (by rw [HNB.out]; simp; omega)]; rfl
    (go_wp2_with fail); refine (HA.out _).mono ?_
    rintro e w2 ⟨rfl, hb⟩
    have hk := HG1.out.below hb; have k0 : w2.cell? ⟨w.heap.size, 0, none⟩ = some (.int .i64 c) := hk.cell 0; have k1 : w2.cell? ⟨w.heap.size, 1, none⟩ = some (.int .i64 l) := hk.cell 1; have k2 : w2.cell? ⟨w.heap.size, 2, none⟩ = some (.int .i64 b) := hk.cell 2; have k3 : w2.cell? ⟨w.heap.size, 3, none⟩ = some (.int .i64 p) := hk.cell 3; have k4 : w2.cell? ⟨w.heap.size, 4, none⟩ = some (.int .i64 s) := hk.cell 4; have hltk := hk.lt
    have HG2 := Lib.hid hk
    have HB2 := Lib.hid (HB1.out.trans (hb.mono HB1.out.size))
    clear hb hk
    by_cases h3 : A < n
    · go_wp2_with fail
      go_ret2
      refine ⟨HB2.out, ?_⟩
      rw [if_neg (by rw [HNB.out, HAE.out]; simp; omega)]; rfl
    obtain ⟨N, rfl⟩ : ∃ N : Nat, n = N := ⟨n.toNat, by omega⟩
    obtain ⟨i0, hif, hz0, hz1, hz2⟩ := info_parts info_entry
    have HR2 := Lib.hid (Blk.new w2 123 [.int .i64 c, .int .i64 l, .int .i64 b, .int .i64 p, .int .i64 s, .slice none 0 0])
    have HB3 := Lib.hid (HB2.out.alloc HB2.out.size (.cells #[.int .i64 c, .int .i64 l, .int .i64 b, .int .i64 p, .int .i64 s, .slice none 0 0] 123))
    have hr2 := HB2.out.size
    go_wp2_with fail
    generalize hrr : w2.heap.size = r at HR2 hr2 ⊢
    have hrw : r < (w2.alloc (.cells #[.int .i64 c, .int .i64 l, .int .i64 b, .int .i64 p, .int .i64 s, .slice none 0 0] 123)).heap.size := HR2.out.lt
    go_loopw [7] (fun t wr => ∃ k : Nat, k ≤ N ∧ t = .int .i64 k ∧ Hid (∃ v, RefAt wr w.heap.size r ⟨c, l, b, p, s⟩ (List.replicate k Ent.none) v) ∧ Hid (Below w.heap.size w wr)) (fun t _ => ((N : Int) - intOf t).toNat)
    case atStart => exact ⟨0, Nat.zero_le _, rfl, ⟨_, HR2.out, World.ownsRow_nil _ _ _ _, hr2⟩, HB3.out⟩
    case round =>
      obtain ⟨k, hk, rfl, HV, HBr⟩ := hrel
      obtain ⟨v, hv⟩ := HV.out
      have HRr := Lib.hid hv
      have HO := Lib.hid hv.row
      rw [List.length_replicate] at HO
      clear hv HV
      by_cases hlt : k < N
      · have c5 : wr.cell? ⟨r, 5, none⟩ = some v := HRr.out.blk.cell 5
        have hrl := HRr.out.blk.lt
        go_wp2_with (first | (at_builtin; refine wpList_append_own_at _ rfl (.tmp 37) (.tmp 39) 121 rfl (r + 1) 32 i0 (.agg #[.int .i64 0, .int .i64 0, .int .i64 0]) 3 24 Try.underlying121 hif hz0 hz1 hz2 rfl (by decide) v k (entC (List.replicate k Ent.none)) rfl (HO.out.alloc _) ⟨wr.heap.size, 0, none⟩ 1 1 [.int .i64 (-1), .int .i64 0, .int .i64 0] rfl rfl ?c1 ?c2 ?c3 ?c4 ?c5 ?K))
        case c1 =>
          intro j u hu
          rw [addr_add, Nat.zero_add, (Blk.new wr 32 [.int .i64 (-1), .int .i64 0, .int .i64 0]).cell]
          exact hu
        case c2 => exact oneCell_three _ _ _
        case c3 => unfold maxLen; omega
        case c4 => omega
        case c5 => simp; omega
        case K =>
          intro v1 w1 hown hgrow hnil hat
          clear hat hnil
          have hlit : entC (List.replicate k Ent.none) ++ [.int .i64 (-1), .int .i64 0, .int .i64 0] = entC (List.replicate (k + 1) Ent.none) := by
            rw [List.replicate_succ']
            unfold entC
            rw [List.flatMap_append]
            rfl
          rw [hlit] at hown
          obtain ⟨g1, cp, rfl⟩ := own_form hown (by omega)
          have hp1 := (HRr.out.blk.alloc (.cells #[.int .i64 (-1), .int .i64 0, .int .i64 0] 32)).grown hgrow (own_ne HO.out (by omega))
          have h2 : w1.cell? ⟨r, 5, none⟩ = some v := hp1.cell 5
          have h3 := hp1.free 5
          have hb1 := below_grown (B := w.heap.size) (HBr.out.alloc HBr.out.size (.cells #[.int .i64 (-1), .int .i64 0, .int .i64 0] 32)) (HO.out.alloc _) hgrow (by simp; have := HBr.out.size; omega) (by omega)
          have HN : Hid (∃ v, RefAt (w1.setCell ⟨r, 5, none⟩ (.slice (some ⟨g1, 0, none⟩) (k + 1) cp)) w.heap.size r ⟨c, l, b, p, s⟩ (List.replicate (k + 1) Ent.none) v) :=
            ⟨_, hp1.set 5 _, by rw [List.length_replicate]; exact ownsRow_setCell_below hown (by show r < r + 1; omega) _, hr2⟩
          have HB1 := Lib.hid (hb1.setCell (p := ⟨r, 5, none⟩) hr2 (.slice (some ⟨g1, 0, none⟩) (k + 1) cp))
          clear hp1 hb1 hown hgrow hlit
          go_wp2_with fail
          go_roundw
          case rel => exact ⟨k + 1, by omega, by go_num, HN.out, HB1.out⟩
          case measure => simp [intOf]; omega
      · obtain rfl : k = N := by omega
        go_wp2_with fail
        go_ret2
        refine ⟨HBr.out, ?_⟩
        rw [if_pos (by rw [HNB.out, HAE.out, HK.out]; simp; omega)]
        exact ⟨r, v, rfl, HRr.out⟩
  · have hk1 : g.okB = false := by simpa using hok
    have HK1 := Lib.hid hk1
    clear hk1 hok hg
    obtain ⟨c, l, b, p, s⟩ := g
    unfold Geo.v
    go_enter Try.func65, Try.ntmps65
    (go_wp2_with fail); refine (ref03Right_any ⟨c, l, b, p, s⟩ _).mono ?_
    rintro e w1 ⟨rfl, hb⟩
    rw [HK1.out]
    have HB1 := Lib.hid (((Below.refl w.heap.size w).alloc (Nat.le_refl _) _).trans (hb.mono (by simp)))
    clear hb
    go_wp2_with fail
    go_ret2
    refine ⟨HB1.out, ?_⟩
    rw [if_neg (by rw [HNB.out, HK1.out]; simp)]; rfl

end Go.Proofs.Ytlkapaecaeldpaa
