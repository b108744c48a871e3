/-
  Package l2p: addr, others, Get.
-/
import Derived.Test.YtlkapaecaeldpaaL2pP
set_option linter.unusedVariables false
set_option linter.unusedSimpArgs false
set_option maxRecDepth 16384
namespace Go.Proofs.Ytlkapaecaeldpaa
open Go.RowKit

theorem geomAll_ok (g : Geo) (h : g.okB = true) (w : World) : Calls Try.prog 80 #[g.v] w fun e w' => e = .returned (.int .i64 g.all) ∧ Below w.heap.size w w' := by
  have := geomAll_any g w (Geo.ok_of h).wf
  unfold Geo.allI at this
  rwa [if_pos h] at this
theorem geomLine_ok (g : Geo) (h : g.okB = true) (w : World) : Calls Try.prog 40 #[g.v] w fun e w' => e = .returned (.int .i64 g.line) ∧ Below w.heap.size w w' := by
  have := geomLine_any g w (Geo.ok_of h).wf
  unfold Geo.lineI at this
  rwa [if_pos h] at this

set_option maxHeartbeats 1000000 in
theorem mapAddr_any {w : World} {B C m : Nat} {g : Geo} {N A kt kw vb : Nat} {st sw : Shards} {fT : Nat → Nat → Value} {fW fV : Nat → Value} (HM : MapRaw w B C m g N A kt kw vb st sw fT fW fV) (hok : g.okB = true) (a : Int) :
    Calls Try.prog 85 #[.pointer (some ⟨m, 0, none⟩), .int .i64 a] w fun e w' => e = .returned (.bool (decide (0 ≤ a ∧ a < g.all))) ∧ Below w.heap.size w w' := by
  have HA : Hid (∀ wy, Calls Try.prog 80 #[g.v] wy fun e w' => e = .returned (.int .i64 g.all) ∧ Below wy.heap.size wy w') := geomAll_ok g hok
  obtain ⟨c, l, b, p, s⟩ := g
  obtain ⟨bl, rfl⟩ : ∃ bl : Nat, b = bl := ⟨b.toNat, by have := (Geo.ok_of hok).b.1; simp only at this; omega⟩
  have hmb := HM.blk; have n0 : w.cell? ⟨m, 0, none⟩ = some (.int .i64 c) := hmb.cell 0; have n1 : w.cell? ⟨m, 1, none⟩ = some (.int .i64 l) := hmb.cell 1; have n2 : w.cell? ⟨m, 2, none⟩ = some (.int .i64 bl) := hmb.cell 2; have n3 : w.cell? ⟨m, 3, none⟩ = some (.int .i64 p) := hmb.cell 3; have n4 : w.cell? ⟨m, 4, none⟩ = some (.int .i64 s) := hmb.cell 4; have n5 : w.cell? ⟨m, 5, none⟩ = some (.int .i64 N) := hmb.cell 5; have n6 : w.cell? ⟨m, 6, none⟩ = some (.pointer (some ⟨kt, 0, none⟩)) := hmb.cell 6; have n7 : w.cell? ⟨m, 7, none⟩ = some (.pointer (some ⟨kw, 0, none⟩)) := hmb.cell 7; have n8 : w.cell? ⟨m, 8, none⟩ = some (.slice (some ⟨vb, 0, none⟩) bl bl) := hmb.cell 8; have nlt := hmb.lt; clear hmb
  clear HM hok
  generalize Geo.all ⟨c, l, bl, p, s⟩ = L at *
  unfold Geo.v at HA
  go_enter Try.func85, Try.ntmps85
  by_cases h0 : 0 ≤ a
  · (go_wp2_with fail); refine (HA.out _).mono ?_
    rintro e w1 ⟨rfl, hb⟩
    go_wp2_with fail
    go_ret
    exact ⟨ret_bool (by simp [h0]), hb⟩
  · go_wp2_with fail
    go_ret
    exact ⟨ret_bool (by simp; omega), Below.refl _ _⟩

set_option maxHeartbeats 1000000 in
theorem mapOthers_any {w : World} {B C m : Nat} {g : Geo} {to : List Ent} {kt kw vb : Nat} {st sw : Shards} (HM : MapAt w B C m g to kt kw vb st sw) (i a : Nat) (hi : i < to.length) (ha : (a : Int) < g.all) :
    Calls Try.prog 86 #[.pointer (some ⟨m, 0, none⟩), .int .i64 i, .int .i64 a] w fun e w' => e = .returned (.bool (decide (whoIx to a ≠ 0 ∧ whoIx to a ≠ i + 1))) ∧ w = w' := by
  have hA : g.all ≤ 65536 := by
    have hg := Geo.ok_of HM.ok
    obtain ⟨m1, m2, m3, m4, m5, m6, m7, m8, m9, m10⟩ := geo_mul hg.c.1 hg.c.2 hg.l.1 hg.l.2 hg.b.1 hg.b.2 hg.p.1 hg.p.2 hg.s.1 hg.s.2
    exact m8
  have haA : a < g.all.toNat := by omega
  have hc := HM.raw.whos.at_ a 0 haA (by decide)
  rw [Nat.mul_one, Nat.add_zero] at hc
  have hcell := hc.1
  have HAT : Hid (∀ wy, wy = w → Calls Try.prog 89 #[.pointer (some ⟨kw, 0, none⟩), .int .i64 a] wy fun e w' => e = .returned (.pointer (some ⟨sw.b (a % 4), a / 4, none⟩)) ∧ wy = w') := by
    rintro _ rfl
    exact atInt_any kw sw g.all.toNat _ a _ HM.raw.whos haA (by omega)
  have hn := whoIx_le to a
  have hlen := HM.len
  obtain ⟨n, hnn⟩ : ∃ n, whoIx to a = n := ⟨_, rfl⟩
  rw [hnn] at hcell hn ⊢
  have hR := HM.raw
  obtain ⟨c, l, b, p, s⟩ := g
  obtain ⟨bl, rfl⟩ : ∃ bl : Nat, b = bl := ⟨b.toNat, by have := (Geo.ok_of HM.ok).b.1; simp only at this; omega⟩
  obtain ⟨N, hN⟩ : ∃ N, to.length = N := ⟨_, rfl⟩
  rw [hN] at hR hi hn hlen
  have hmb := hR.blk; have n0 : w.cell? ⟨m, 0, none⟩ = some (.int .i64 c) := hmb.cell 0; have n1 : w.cell? ⟨m, 1, none⟩ = some (.int .i64 l) := hmb.cell 1; have n2 : w.cell? ⟨m, 2, none⟩ = some (.int .i64 bl) := hmb.cell 2; have n3 : w.cell? ⟨m, 3, none⟩ = some (.int .i64 p) := hmb.cell 3; have n4 : w.cell? ⟨m, 4, none⟩ = some (.int .i64 s) := hmb.cell 4; have n5 : w.cell? ⟨m, 5, none⟩ = some (.int .i64 N) := hmb.cell 5; have n6 : w.cell? ⟨m, 6, none⟩ = some (.pointer (some ⟨kt, 0, none⟩)) := hmb.cell 6; have n7 : w.cell? ⟨m, 7, none⟩ = some (.pointer (some ⟨kw, 0, none⟩)) := hmb.cell 7; have n8 : w.cell? ⟨m, 8, none⟩ = some (.slice (some ⟨vb, 0, none⟩) bl bl) := hmb.cell 8; have nlt := hmb.lt; clear hmb
  have hiw : IntKind.i64.wrap ((i : Int) + 1) = (i : Int) + 1 := wrap_in _ ⟨by omega, by omega⟩
  clear HM hR hc hnn hN
  go_enter Try.func86, Try.ntmps86
  (go_wp2_with fail); refine (HAT.out _ rfl).mono ?_
  rintro e w1 ⟨rfl, rfl⟩
  generalize sw.b (a % 4) = bq at *
  generalize a / 4 = oq at *
  by_cases h0 : n = 0
  · subst h0
    go_wp2_with fail
    go_ret
    exact ⟨ret_bool (by simp), rfl⟩
  · have hb0 : ((n : Int) != 0) = true := by simp [h0]
    by_cases h1 : n = i + 1
    · have hb1 : ((n : Int) != (i : Int) + 1) = false := by simp; omega
      go_wp2_with fail
      go_ret
      exact ⟨ret_bool (by simp [h1]), rfl⟩
    · have hb1 : ((n : Int) != (i : Int) + 1) = true := by simp; omega
      go_wp2_with fail
      go_ret
      exact ⟨ret_bool (by simp [h1, h0]), rfl⟩

set_option maxHeartbeats 1000000 in
theorem mapGet_any {w : World} {B C m : Nat} {g : Geo} {to : List Ent} {kt kw vb : Nat} {st sw : Shards} (HM : MapAt w B C m g to kt kw vb st sw) (i : Nat) (x : Ent) (hi : to[i]? = some x) :
    Calls Try.prog 36 #[.pointer (some ⟨m, 0, none⟩), .int .i64 i] w fun e w' => e = .returned (.tuple #[x.v, .int .i64 0]) ∧ Below w.heap.size w w' := by
  have hlt := (List.getElem?_eq_some_iff.1 hi).1
  have hc0 := HM.raw.tos.at_ i 0 hlt (by decide)
  have hc1 := HM.raw.tos.at_ i 1 hlt (by decide)
  have hc2 := HM.raw.tos.at_ i 2 hlt (by decide)
  rw [List.getD_eq_getElem?_getD, hi] at hc0 hc1 hc2
  have hlen := HM.len
  have HAT : Hid (∀ wy, Below w.heap.size w wy → Calls Try.prog 88 #[.pointer (some ⟨kt, 0, none⟩), .int .i64 i] wy fun e w' => e = .returned (.pointer (some ⟨st.b (i % 4), i / 4 * 3, none⟩)) ∧ wy = w') := by
    intro wy hb
    exact atEntry_any kt st to.length _ i _ (HM.raw.below hb).tos hlt (by omega)
  have HZ := Lib.hid (Blk.new w 32 [.int .i64 0, .int .i64 0, .int .i64 0])
  have hb0 : Below w.heap.size w (w.alloc (.cells #[.int .i64 0, .int .i64 0, .int .i64 0] 32)) := (Below.refl w.heap.size w).alloc (Nat.le_refl _) _
  have c0 := (hc0.below hb0).1
  have c1 := (hc1.below hb0).1
  have c2 := (hc2.below hb0).1
  have hR := HM.raw
  obtain ⟨c, l, b, p, s⟩ := g
  obtain ⟨bl, rfl⟩ : ∃ bl : Nat, b = bl := ⟨b.toNat, by have := (Geo.ok_of HM.ok).b.1; simp only at this; omega⟩
  obtain ⟨N, hN⟩ : ∃ N, to.length = N := ⟨_, rfl⟩
  rw [hN] at hR hlt hlen
  have hmb := hR.blk; have n0 : w.cell? ⟨m, 0, none⟩ = some (.int .i64 c) := hmb.cell 0; have n1 : w.cell? ⟨m, 1, none⟩ = some (.int .i64 l) := hmb.cell 1; have n2 : w.cell? ⟨m, 2, none⟩ = some (.int .i64 bl) := hmb.cell 2; have n3 : w.cell? ⟨m, 3, none⟩ = some (.int .i64 p) := hmb.cell 3; have n4 : w.cell? ⟨m, 4, none⟩ = some (.int .i64 s) := hmb.cell 4; have n5 : w.cell? ⟨m, 5, none⟩ = some (.int .i64 N) := hmb.cell 5; have n6 : w.cell? ⟨m, 6, none⟩ = some (.pointer (some ⟨kt, 0, none⟩)) := hmb.cell 6; have n7 : w.cell? ⟨m, 7, none⟩ = some (.pointer (some ⟨kw, 0, none⟩)) := hmb.cell 7; have n8 : w.cell? ⟨m, 8, none⟩ = some (.slice (some ⟨vb, 0, none⟩) bl bl) := hmb.cell 8; have nlt := hmb.lt; clear hmb
  have hq := hc0.lt
  have HB := Lib.hid hb0
  clear HM hR hc0 hc1 hc2 hN hi hb0
  obtain ⟨xa, xs, xk⟩ := x
  have d0 : (w.alloc (.cells #[.int .i64 0, .int .i64 0, .int .i64 0] 32)).cell? ⟨st.b (i % 4), i / 4 * 3, none⟩ = some (.int .i64 xa) := c0
  have d1 : (w.alloc (.cells #[.int .i64 0, .int .i64 0, .int .i64 0] 32)).cell? ⟨st.b (i % 4), i / 4 * 3 + 1, none⟩ = some (.int .i64 xs) := c1
  have d2 : (w.alloc (.cells #[.int .i64 0, .int .i64 0, .int .i64 0] 32)).cell? ⟨st.b (i % 4), i / 4 * 3 + 2, none⟩ = some (.int .i64 xk) := c2
  clear c0 c1 c2
  go_enter Try.func36, Try.ntmps36
  (go_wp2_with fail); refine (HAT.out _ HB.out).mono ?_
  rintro e w1 ⟨rfl, rfl⟩
  generalize st.b (i % 4) = bq at *
  generalize i / 4 * 3 = oq at *
  go_wp2_with fail
  refine bodyPost_ret (by simp [results, Try.results36, go_sem]; try rfl) rfl ?_
  exact ⟨rfl, (Below.refl w.heap.size w).alloc (Nat.le_refl _) _⟩

set_option maxHeartbeats 1000000 in
theorem mapGetNo_any {w : World} {B C m : Nat} {g : Geo} {to : List Ent} {kt kw vb : Nat} {st sw : Shards} (HM : MapAt w B C m g to kt kw vb st sw) (i : Int) (hi : ¬ (0 ≤ i ∧ i < to.length)) :
    Calls Try.prog 36 #[.pointer (some ⟨m, 0, none⟩), .int .i64 i] w fun e w' => e = .returned (.tuple #[(Ent.mk 0 0 0).v, .int .i64 2]) ∧ Below w.heap.size w w' := by
  have hR := HM.raw
  obtain ⟨c, l, b, p, s⟩ := g
  obtain ⟨bl, rfl⟩ : ∃ bl : Nat, b = bl := ⟨b.toNat, by have := (Geo.ok_of HM.ok).b.1; simp only at this; omega⟩
  obtain ⟨N, hN⟩ : ∃ N, to.length = N := ⟨_, rfl⟩
  rw [hN] at hR hi
  have hmb := hR.blk; have n0 : w.cell? ⟨m, 0, none⟩ = some (.int .i64 c) := hmb.cell 0; have n1 : w.cell? ⟨m, 1, none⟩ = some (.int .i64 l) := hmb.cell 1; have n2 : w.cell? ⟨m, 2, none⟩ = some (.int .i64 bl) := hmb.cell 2; have n3 : w.cell? ⟨m, 3, none⟩ = some (.int .i64 p) := hmb.cell 3; have n4 : w.cell? ⟨m, 4, none⟩ = some (.int .i64 s) := hmb.cell 4; have n5 : w.cell? ⟨m, 5, none⟩ = some (.int .i64 N) := hmb.cell 5; have n6 : w.cell? ⟨m, 6, none⟩ = some (.pointer (some ⟨kt, 0, none⟩)) := hmb.cell 6; have n7 : w.cell? ⟨m, 7, none⟩ = some (.pointer (some ⟨kw, 0, none⟩)) := hmb.cell 7; have n8 : w.cell? ⟨m, 8, none⟩ = some (.slice (some ⟨vb, 0, none⟩) bl bl) := hmb.cell 8; have nlt := hmb.lt; clear hmb
  clear HM hR hN
  go_enter Try.func36, Try.ntmps36
  by_cases h0 : i < 0
  · go_wp2_with fail
    refine bodyPost_ret (by simp [results, Try.results36, go_sem]; try rfl) rfl ?_
    exact ⟨rfl, (Below.refl w.heap.size w).alloc (Nat.le_refl _) _⟩
  · have h1 : (N : Int) ≤ i := by omega
    clear hi
    go_wp2_with fail
    refine bodyPost_ret (by simp [results, Try.results36, go_sem]; try rfl) rfl ?_
    exact ⟨rfl, (Below.refl w.heap.size w).alloc (Nat.le_refl _) _⟩

end Go.Proofs.Ytlkapaecaeldpaa
