/-
  The walks of the laws over package l2p: both; L2pNews.
-/
import Derived.Test.YtbfpnpoafepjjaaLaw11b
import Derived.Test.YtbfpnpoafepjjaaRef11b
set_option linter.unusedVariables false
set_option linter.unusedSimpArgs false
set_option maxRecDepth 16384
namespace Go.Proofs.Ytbfpnpoafepjjaa
open Go.RowKit

theorem UponT.convert {P : Program} {R : Value → World → Prop} {w : World} {o : Oper} {a : Act} (s t : TypeId) (x : Operand) (v u : Value)
    (ho : o.op = .convert s t x) (hx : a.eval x = v) (hr : (Go.convert s t v).run P w = .ok u w) (h : R u w) : UponT P R ((execOp a.eval o).run P w) := by
  unfold execOp
  simp only [ho, Sem.run_bind, Sem.run_pure, Result.andThen_ok, hx, hr]
  exact h

theorem newPost_is {g : Geo} {n : Int} {w w' : World} {e : Ending} (h : RefNewPost g n w e w') (hk : newOk g n = true) :
    Below w.heap.size w w' ∧ ∃ r v, e = .returned (.tuple #[.pointer (some ⟨r, 0, none⟩), .int .i64 0]) ∧ RefAt w' w.heap.size r g (List.replicate n.toNat Ent.none) v := by
  obtain ⟨h1, h2⟩ := h
  rw [if_pos hk] at h2
  exact ⟨h1, h2⟩
theorem newPost_isno {g : Geo} {n : Int} {w w' : World} {e : Ending} (h : RefNewPost g n w e w') (hk : newOk g n = false) : Below w.heap.size w w' ∧ e = .returned (.tuple #[.pointer none, .int .i64 1]) := by
  obtain ⟨h1, h2⟩ := h
  rw [if_neg (by rw [hk]; decide)] at h2
  exact ⟨h1, h2⟩

/-- how both ends -/
def BothPost (g : Geo) (n : Int) (w : World) (e : Ending) (w' : World) : Prop :=
  Below w.heap.size w w' ∧
    (if newOk g n = true then ∃ B C m kt kw vb st sw r v, e = .returned (.tuple #[.pointer (some ⟨m, 0, none⟩), .pointer (some ⟨r, 0, none⟩), .bool true]) ∧ MapAt w' B C m g (List.replicate n.toNat Ent.none) kt kw vb st sw ∧ RefAt w' C r g (List.replicate n.toNat Ent.none) v ∧ w.heap.size ≤ B
      else e = .returned (.tuple #[.pointer none, .pointer none, .bool true]))

set_option maxHeartbeats 1000000 in
theorem both_any (g : Geo) (n : Int) (w : World) (hg : g.Wf) (hn : IsInt n) :
    Calls Try.prog 46 #[g.v, .int .i64 n] w fun e w' => BothPost g n w e w' := by
  have HW := Lib.hid hg
  have HI := Lib.hid hn
  clear hg hn
  obtain ⟨c, l, b, p, s⟩ := g
  have HG := Lib.hid (Blk.new w 23 [.int .i64 c, .int .i64 l, .int .i64 b, .int .i64 p, .int .i64 s])
  unfold Geo.v
  go_enter Try.func46, Try.ntmps46
  have hb0 : Below w.heap.size w (w.alloc (.cells #[.int .i64 c, .int .i64 l, .int .i64 b, .int .i64 p, .int .i64 s] 23)) := (Below.refl w.heap.size w).alloc (Nat.le_refl _) _
  have hb0s := hb0.size
  (go_wp2_with fail); refine (l2pNew_any ⟨c, l, b, p, s⟩ n _ HW.out HI.out).mono ?_
  intro e w1 hp
  by_cases hno : newOk ⟨c, l, b, p, s⟩ n = true
  · obtain ⟨hb, m, kt, kw, vb, st', sw, rfl, hm⟩ := newPost_ok hp hno
    have hk := HG.out.below hb; have k0 : w1.cell? ⟨w.heap.size, 0, none⟩ = some (.int .i64 c) := hk.cell 0; have k1 : w1.cell? ⟨w.heap.size, 1, none⟩ = some (.int .i64 l) := hk.cell 1; have k2 : w1.cell? ⟨w.heap.size, 2, none⟩ = some (.int .i64 b) := hk.cell 2; have k3 : w1.cell? ⟨w.heap.size, 3, none⟩ = some (.int .i64 p) := hk.cell 3; have k4 : w1.cell? ⟨w.heap.size, 4, none⟩ = some (.int .i64 s) := hk.cell 4; have hltk := hk.lt
    have HM1 := Lib.hid hm
    have HB1 := Lib.hid (hb0.trans (hb.mono hb0s))
    clear hp hm hb hk
    (go_wp2_with fail); refine (ref11New_any ⟨c, l, b, p, s⟩ n _ HW.out HI.out).mono ?_
    intro e w2 hp
    obtain ⟨hb, r, v, rfl, hr⟩ := newPost_is hp hno
    have HM2 := Lib.hid (HM1.out.below hb)
    have HR2 := Lib.hid hr
    have HB2 := Lib.hid (HB1.out.trans (hb.mono HB1.out.size))
    clear hp hb hr hb0
    go_wp2_with fail
    refine bodyPost_ret (v := .tuple #[.pointer (some ⟨m, 0, none⟩), .pointer (some ⟨r, 0, none⟩), .bool true]) (by simp [results, Try.results46, go_sem]) rfl ?_
    refine ⟨HB2.out, ?_⟩
    rw [if_pos hno]
    exact ⟨_, _, m, kt, kw, vb, st', sw, r, v, rfl, HM2.out, HR2.out, hb0s⟩
  · obtain ⟨hb, rfl⟩ := newPost_no hp (by simpa using hno)
    have hk := HG.out.below hb; have k0 : w1.cell? ⟨w.heap.size, 0, none⟩ = some (.int .i64 c) := hk.cell 0; have k1 : w1.cell? ⟨w.heap.size, 1, none⟩ = some (.int .i64 l) := hk.cell 1; have k2 : w1.cell? ⟨w.heap.size, 2, none⟩ = some (.int .i64 b) := hk.cell 2; have k3 : w1.cell? ⟨w.heap.size, 3, none⟩ = some (.int .i64 p) := hk.cell 3; have k4 : w1.cell? ⟨w.heap.size, 4, none⟩ = some (.int .i64 s) := hk.cell 4; have hltk := hk.lt
    have HB1 := Lib.hid (hb0.trans (hb.mono hb0s))
    clear hp hb hk
    (go_wp2_with fail); refine (ref11New_any ⟨c, l, b, p, s⟩ n _ HW.out HI.out).mono ?_
    intro e w2 hp
    obtain ⟨hb, rfl⟩ := newPost_isno hp (by simpa using hno)
    have HB2 := Lib.hid (HB1.out.trans (hb.mono HB1.out.size))
    clear hp hb hb0
    go_wp2_with fail
    refine bodyPost_ret (v := .tuple #[.pointer none, .pointer none, .bool true]) (by simp [results, Try.results46, go_sem]) rfl ?_
    refine ⟨HB2.out, ?_⟩
    rw [if_neg hno]

theorem bitsF_new (line : Int) (h0 : 0 ≤ line) (n : Nat) (l : Nat) : ∀ j, bitsF line (List.replicate n Ent.none) l j = List.replicate (makeN line) 0
  | 0 => rfl
  | j + 1 => by
    rw [bitsF, bitsF_new line h0 n l j]
    have h1 : 0 ≤ (l : Int) * line := Int.mul_nonneg (by omega) h0
    obtain ⟨k, hk⟩ : ∃ k : Nat, (l : Int) * line + j = k := ⟨((l : Int) * line + j).toNat, by omega⟩
    rw [hk, whoIx_new, if_neg (by simp)]
theorem bitsR_new (line : Int) (n : Nat) (l : Int) : ∀ j, bitsR line (List.replicate n Ent.none) l j = List.replicate (makeN line) 0
  | 0 => rfl
  | j + 1 => by
    rw [bitsR, bitsR_new line n l j, if_neg]
    intro h
    have h1 := h.1
    rw [List.getD_eq_getElem?_getD, List.getElem?_replicate] at h1
    split at h1 <;> simp [Ent.none] at h1

/-- what is known within the law's last line -/
def NewsJ (t : TypeId) (M : Nat) (ys : List Int) (i : Nat) (v : Value) (lo hi : Nat) (w : World) : Prop :=
  match i with
  | 18 => ∃ b, w.ownsRow b t 1 v M (bv ys)
  | 19 => v = .string (strOfNums ys)
  | 21 => ∃ b, w.ownsRow b t 1 v M (bv ys)
  | 22 => v = .string (strOfNums ys)
  | 23 => v = .bool true
  | 24 => v = .bool true
  | _ => True
theorem NewsJ.keep {t : TypeId} {M : Nat} {ys : List Int} (i : Nat) (v : Value) (lo hi : Nat) (w w' : World) (h : NewsJ t M ys i v lo hi w) (hs : Since w w') : NewsJ t M ys i v lo hi w' := by
  unfold NewsJ at *
  split at h
  · obtain ⟨b, h⟩ := h; exact ⟨b, own_below h hs⟩
  · exact h
  · obtain ⟨b, h⟩ := h; exact ⟨b, own_below h hs⟩
  · exact h
  · exact h
  · exact h
  · trivial

set_option maxHeartbeats 4000000 in
theorem l2pNewsWalk (g : Geo) (n lba : Int) (w : World) (hg : g.Wf) (hn : (Lit.int .i64 n).wf = true) (hl : (Lit.int .i64 lba).wf = true) :
    Calls Try.prog 14 #[g.v, .int .i64 n, .int .i64 lba] w fun e w' => e = .returned (.bool true) ∧ Below w.heap.size w w' := by
  have HW := Lib.hid hg
  have HI := Lib.hid (wf_i64 hn)
  clear hg hn hl
  obtain ⟨c, l, b, p, s⟩ := g
  have HG := Lib.hid (Blk.new w 23 [.int .i64 c, .int .i64 l, .int .i64 b, .int .i64 p, .int .i64 s])
  unfold Geo.v
  go_enter Try.func14, Try.ntmps14
  (go_wp2_with fail); refine (awake11_any _).mono ?_
  rintro e w1 ⟨rfl, hb⟩
  have hk := HG.out.below hb; have k0 : w1.cell? ⟨w.heap.size, 0, none⟩ = some (.int .i64 c) := hk.cell 0; have k1 : w1.cell? ⟨w.heap.size, 1, none⟩ = some (.int .i64 l) := hk.cell 1; have k2 : w1.cell? ⟨w.heap.size, 2, none⟩ = some (.int .i64 b) := hk.cell 2; have k3 : w1.cell? ⟨w.heap.size, 3, none⟩ = some (.int .i64 p) := hk.cell 3; have k4 : w1.cell? ⟨w.heap.size, 4, none⟩ = some (.int .i64 s) := hk.cell 4; have hltk := hk.lt
  have HB1 := Lib.hid (((Below.refl w.heap.size w).alloc (Nat.le_refl _) _).trans (hb.mono (by simp)))
  clear hb hk
  (go_wp2_with fail); refine (both_any ⟨c, l, b, p, s⟩ n _ HW.out HI.out).mono ?_
  intro e w2 hp
  obtain ⟨hb, hp⟩ := hp
  have HB2 := Lib.hid (HB1.out.trans (hb.mono HB1.out.size))
  by_cases hno : newOk ⟨c, l, b, p, s⟩ n = true
  · rw [if_pos hno] at hp
    obtain ⟨B, C, m, kt, kw, vb, st', sw, r, v, rfl, hm, hr, hBB⟩ := hp
    obtain ⟨N, hN⟩ : ∃ N : Nat, n.toNat = N := ⟨_, rfl⟩
    rw [hN] at hm hr
    have HM2 := Lib.hid hm
    have HR2 := Lib.hid hr
    have hlen := hm.len
    rw [List.length_replicate] at hlen
    have HOK := Lib.hid hm.ok
    have HMAN : Hid (manyN (List.replicate N Ent.none) = 0) := by
      show _ = _
      unfold manyN
      rw [List.countP_eq_zero]
      intro e he
      rw [List.mem_replicate] at he
      rw [he.2]; simp [Ent.none]
    obtain ⟨M, hM⟩ : ∃ M, makeN (Geo.line ⟨c, l, b, p, s⟩) = M := ⟨_, rfl⟩
    have hgo := Geo.ok_of hm.ok
    have hM9 : M ≤ 1024 := by rw [← hM]; exact makeN_le _
    have hl0 : 0 ≤ Geo.line ⟨c, l, b, p, s⟩ := by
      obtain ⟨m1, m2, m3, m4, m5, m6, m7, m8, m9, m10⟩ := geo_mul hgo.c.1 hgo.c.2 hgo.l.1 hgo.l.2 hgo.b.1 hgo.b.2 hgo.p.1 hgo.p.2 hgo.s.1 hgo.s.2
      unfold Geo.line; omega
    have HBF : Hid (∀ j, bitsF (Geo.line ⟨c, l, b, p, s⟩) (List.replicate N Ent.none) 0 j = List.replicate M 0) := fun j => by
      have := bitsF_new (Geo.line ⟨c, l, b, p, s⟩) hl0 N 0 j
      rw [hM] at this
      exact this
    have HBR : Hid (∀ j, bitsR (Geo.line ⟨c, l, b, p, s⟩) (List.replicate N Ent.none) 0 j = List.replicate M 0) := fun j => by
      have := bitsR_new (Geo.line ⟨c, l, b, p, s⟩) N 0 j
      rw [hM] at this
      exact this
    have HMM := Lib.hid hM
    have HBL : Hid ((0 : Int) ≤ 0 ∧ (0 : Int) < Geo.blocks ⟨c, l, b, p, s⟩) := ⟨by omega, by have := hgo.b.1; omega⟩
    have HFI : Hid (∀ e ∈ List.replicate N Ent.none, e.a < Geo.all ⟨c, l, b, p, s⟩) := fun e he => by
      have h1 := hm.fine.in_ e he
      rw [List.mem_replicate] at he
      rw [he.2]
      obtain ⟨m1, m2, m3, m4, m5, m6, m7, m8, m9, m10⟩ := geo_mul hgo.c.1 hgo.c.2 hgo.l.1 hgo.l.2 hgo.b.1 hgo.b.2 hgo.p.1 hgo.p.2 hgo.s.1 hgo.s.2
      have : 1 ≤ Geo.all ⟨c, l, b, p, s⟩ := m7
      show (-1 : Int) < _
      omega
    have HGET : Hid (∃ (x : Ent) (er : Int), (∀ wy B C, MapAt wy B C m ⟨c, l, b, p, s⟩ (List.replicate N Ent.none) kt kw vb st' sw → Calls Try.prog 42 #[.pointer (some ⟨m, 0, none⟩), .int .i64 lba] wy fun e w' => e = .returned (.tuple #[x.v, .int .i64 er]) ∧ Below wy.heap.size wy w') ∧
        (∀ wy B, RefAt wy B r ⟨c, l, b, p, s⟩ (List.replicate N Ent.none) v → Calls Try.prog 47 #[.pointer (some ⟨r, 0, none⟩), .int .i64 lba] wy fun e w' => e = .returned (.tuple #[x.v, .int .i64 er]) ∧ Below wy.heap.size wy w')) := by
      by_cases hin : 0 ≤ lba ∧ lba < (List.replicate N Ent.none).length
      · obtain ⟨i, rfl⟩ : ∃ i : Nat, lba = i := ⟨lba.toNat, by omega⟩
        have hi : (List.replicate N Ent.none)[i]? = some Ent.none := by
          rw [List.length_replicate] at hin
          rw [List.getElem?_replicate, if_pos (by omega)]
        exact ⟨Ent.none, 0, fun wy B C h => mapGet_any h i _ hi, fun wy B h => ref11Get_any h i _ hi⟩
      · exact ⟨⟨0, 0, 0⟩, 2, fun wy B C h => mapGetNo_any h lba hin, fun wy B h => ref11GetNo_any h lba hin⟩
    obtain ⟨⟨xa, xs, xk⟩, er, hg1, hg2⟩ := HGET.out
    have HG1 := Lib.hid hg1
    have HG2 := Lib.hid hg2
    clear hm hr hb hN hM hgo hl0 HGET hg1 hg2 k0 k1 k2 k3 k4 hltk hno
    simp only []
    (go_wp2_with fail); refine (HG1.out _ B C HM2.out).mono ?_
    rintro e w3 ⟨rfl, hb⟩
    simp only [Ent.v]
    have hbx : Below w3.heap.size w3 (w3.alloc (.cells #[.int .i64 xa, .int .i64 xs, .int .i64 xk] 55)) := (Below.refl w3.heap.size w3).alloc (Nat.le_refl _) _
    have HM3 := Lib.hid ((HM2.out.below hb).below hbx)
    have HR3 := Lib.hid ((HR2.out.below hb).below hbx)
    have HB3 := Lib.hid ((HB2.out.trans (hb.mono HB2.out.size)).trans (hbx.mono (HB2.out.trans (hb.mono HB2.out.size)).size))
    have HX3 := Lib.hid (Blk.new w3 55 [.int .i64 xa, .int .i64 xs, .int .i64 xk])
    clear hb hbx
    (go_wp2_with fail); refine (HG2.out _ C HR3.out).mono ?_
    rintro e w4 ⟨rfl, hb⟩
    simp only [Ent.v]
    have hbx : Below w4.heap.size w4 (w4.alloc (.cells #[.int .i64 xa, .int .i64 xs, .int .i64 xk] 55)) := (Below.refl w4.heap.size w4).alloc (Nat.le_refl _) _
    have HM4 := Lib.hid ((HM3.out.below hb).below hbx)
    have HR4 := Lib.hid ((HR3.out.below hb).below hbx)
    have HB4 := Lib.hid ((HB3.out.trans (hb.mono HB3.out.size)).trans (hbx.mono (HB3.out.trans (hb.mono HB3.out.size)).size))
    have HX4 := Lib.hid ((HX3.out.below hb).below hbx)
    have HY4 := Lib.hid (Blk.new w4 55 [.int .i64 xa, .int .i64 xs, .int .i64 xk])
    generalize w3.heap.size = xb at HX4 ⊢
    clear hb hbx
    go_wp2_with fail
    generalize w4.heap.size = yb at HY4 ⊢
    generalize w4.alloc (.cells #[.int .i64 xa, .int .i64 xs, .int .i64 xk] 55) = w5 at HM4 HR4 HB4 HX4 HY4 ⊢
    have x0 : w5.cell? ⟨xb, 0, none⟩ = some (.int .i64 xa) := HX4.out.cell 0
    have x1 : w5.cell? ⟨xb, 1, none⟩ = some (.int .i64 xs) := HX4.out.cell 1
    have x2 : w5.cell? ⟨xb, 2, none⟩ = some (.int .i64 xk) := HX4.out.cell 2
    have y0 : w5.cell? ⟨yb, 0, none⟩ = some (.int .i64 xa) := HY4.out.cell 0
    have y1 : w5.cell? ⟨yb, 1, none⟩ = some (.int .i64 xs) := HY4.out.cell 1
    have y2 : w5.cell? ⟨yb, 2, none⟩ = some (.int .i64 xk) := HY4.out.cell 2
    refine wp_region_t 25 [(18, []), (19, [18]), (21, []), (22, [21]), (23, [19, 22]), (24, [23])] 26 (NewsJ 5 M (List.replicate M 0)) [?_, ?_, ?_, ?_, ?_, ?_, ?_, ?_, ?_, ?_, ?_, ?_, ?_, ?_, ?_, ?_, ?_, ?_, undef, undef, ?_, undef, undef, undef, undef] (by kernel_rfl) (by kernel_rfl) (by kernel_rfl) NewsJ.keep ?_
    rotate_left 19
    simp only [List.take_succ_cons, List.take_zero, List.drop_succ_cons, List.drop_zero]
    refine SeqT.run (v := ?_) rfl rfl (fun _ wz hz => ?_) ?_ ?_; rotate_left; (have hzc := hz.cell; have hzf := hz.frozen; go_simp; first | exact UponS.value (Since.refl _) | exact UponS.skip (Since.refl _)); (exact rfl); (try simp only [Act.put, List.setIfInBounds_toArray, List.set_cons_zero, List.set_cons_succ])
    refine SeqT.run (v := ?_) rfl rfl (fun _ wz hz => ?_) ?_ ?_; rotate_left; (have hzc := hz.cell; have hzf := hz.frozen; go_simp; first | exact UponS.value (Since.refl _) | exact UponS.skip (Since.refl _)); (exact rfl); (try simp only [Act.put, List.setIfInBounds_toArray, List.set_cons_zero, List.set_cons_succ])
    refine SeqT.run (v := ?_) rfl rfl (fun _ wz hz => ?_) ?_ ?_; rotate_left; (have hzc := hz.cell; have hzf := hz.frozen; go_simp; first | exact UponS.value (Since.refl _) | exact UponS.skip (Since.refl _)); (exact rfl); (try simp only [Act.put, List.setIfInBounds_toArray, List.set_cons_zero, List.set_cons_succ])
    refine SeqT.run (v := ?_) rfl rfl (fun _ wz hz => ?_) ?_ ?_; rotate_left; (have hzc := hz.cell; have hzf := hz.frozen; go_simp; first | exact UponS.value (Since.refl _) | exact UponS.skip (Since.refl _)); (exact rfl); (try simp only [Act.put, List.setIfInBounds_toArray, List.set_cons_zero, List.set_cons_succ])
    refine SeqT.run (v := ?_) rfl rfl (fun _ wz hz => ?_) ?_ ?_; rotate_left; (have hzc := hz.cell; have hzf := hz.frozen; go_simp; first | exact UponS.value (Since.refl _) | exact UponS.skip (Since.refl _)); (exact rfl); (try simp only [Act.put, List.setIfInBounds_toArray, List.set_cons_zero, List.set_cons_succ])
    refine SeqT.run (v := ?_) rfl rfl (fun _ wz hz => ?_) ?_ ?_; rotate_left; (have hzc := hz.cell; have hzf := hz.frozen; go_simp; first | exact UponS.value (Since.refl _) | exact UponS.skip (Since.refl _)); (exact rfl); (try simp only [Act.put, List.setIfInBounds_toArray, List.set_cons_zero, List.set_cons_succ])
    refine SeqT.run (v := ?_) rfl rfl (fun _ wz hz => ?_) ?_ ?_; rotate_left; (have hzc := hz.cell; have hzf := hz.frozen; go_simp; first | exact UponS.value (Since.refl _) | exact UponS.skip (Since.refl _)); (exact rfl); (try simp only [Act.put, List.setIfInBounds_toArray, List.set_cons_zero, List.set_cons_succ])
    refine SeqT.run (v := ?_) rfl rfl (fun _ wz hz => ?_) ?_ ?_; rotate_left; (have hzc := hz.cell; have hzf := hz.frozen; go_simp; first | exact UponS.value (Since.refl _) | exact UponS.skip (Since.refl _)); (exact rfl); (try simp only [Act.put, List.setIfInBounds_toArray, List.set_cons_zero, List.set_cons_succ])
    refine SeqT.run (v := ?_) rfl rfl (fun _ wz hz => ?_) ?_ ?_; rotate_left; (have hzc := hz.cell; have hzf := hz.frozen; go_simp; first | exact UponS.value (Since.refl _) | exact UponS.skip (Since.refl _)); (exact rfl); (try simp only [Act.put, List.setIfInBounds_toArray, List.set_cons_zero, List.set_cons_succ])
    refine SeqT.run (v := ?_) rfl rfl (fun _ wz hz => ?_) ?_ ?_; rotate_left; (have hzc := hz.cell; have hzf := hz.frozen; go_simp; first | exact UponS.value (Since.refl _) | exact UponS.skip (Since.refl _)); (exact rfl); (try simp only [Act.put, List.setIfInBounds_toArray, List.set_cons_zero, List.set_cons_succ])
    refine SeqT.run (v := ?_) rfl rfl (fun _ wz hz => ?_) ?_ ?_; rotate_left; (have hzc := hz.cell; have hzf := hz.frozen; go_simp; first | exact UponS.value (Since.refl _) | exact UponS.skip (Since.refl _)); (exact rfl); (try simp only [Act.put, List.setIfInBounds_toArray, List.set_cons_zero, List.set_cons_succ])
    refine SeqT.run (v := ?_) rfl rfl (fun _ wz hz => ?_) ?_ ?_; rotate_left; (have hzc := hz.cell; have hzf := hz.frozen; go_simp; first | exact UponS.value (Since.refl _) | exact UponS.skip (Since.refl _)); (exact rfl); (try simp only [Act.put, List.setIfInBounds_toArray, List.set_cons_zero, List.set_cons_succ])
    refine SeqT.run (v := ?_) rfl rfl (fun _ wz hz => ?_) ?_ ?_; rotate_left; (have hzc := hz.cell; have hzf := hz.frozen; go_simp; first | exact UponS.value (Since.refl _) | exact UponS.skip (Since.refl _)); (exact rfl); (try simp only [Act.put, List.setIfInBounds_toArray, List.set_cons_zero, List.set_cons_succ])
    refine SeqT.run (v := ?_) rfl rfl (fun _ wz hz => ?_) ?_ ?_; rotate_left; (have hzc := hz.cell; have hzf := hz.frozen; go_simp; refine UponS.call ?_; go_at_call 43; refine (mapMany_any (HM4.out.sinceD hz)).mono ?_; rintro e wy ⟨rfl, rfl⟩; refine ⟨?_, Since.refl _⟩; rfl); (exact rfl); (try simp only [Act.put, List.setIfInBounds_toArray, List.set_cons_zero, List.set_cons_succ])
    simp only [HMAN.out]
    refine SeqT.run (v := ?_) rfl rfl (fun _ wz hz => ?_) ?_ ?_; rotate_left; (have hzc := hz.cell; have hzf := hz.frozen; go_simp; first | exact UponS.value (Since.refl _) | exact UponS.skip (Since.refl _)); (exact rfl); (try simp only [Act.put, List.setIfInBounds_toArray, List.set_cons_zero, List.set_cons_succ])
    refine SeqT.run (v := ?_) rfl rfl (fun _ wz hz => ?_) ?_ ?_; rotate_left; (have hzc := hz.cell; have hzf := hz.frozen; go_simp; first | exact UponS.value (Since.refl _) | exact UponS.skip (Since.refl _)); (exact rfl); (try simp only [Act.put, List.setIfInBounds_toArray, List.set_cons_zero, List.set_cons_succ])
    refine SeqT.run (v := ?_) rfl rfl (fun _ wz hz => ?_) ?_ ?_; rotate_left; (have hzc := hz.cell; have hzf := hz.frozen; go_simp; first | exact UponS.value (Since.refl _) | exact UponS.skip (Since.refl _)); (exact rfl); (try simp only [Act.put, List.setIfInBounds_toArray, List.set_cons_zero, List.set_cons_succ])
    refine SeqT.run (v := ?_) rfl rfl (fun _ wz hz => ?_) ?_ ?_; rotate_left; (have hzc := hz.cell; have hzf := hz.frozen; go_simp; first | exact UponS.value (Since.refl _) | exact UponS.skip (Since.refl _)); (exact rfl); (try simp only [Act.put, List.setIfInBounds_toArray, List.set_cons_zero, List.set_cons_succ])
    refine SeqT.tie rfl (by decide) rfl (fun wz hz hd => ?_) (fun v18 _ _ => ?_)
    · have hzc := hz.cell
      go_simp
      refine UponT.call ?_
      go_at_call 48
      refine (mapBits_any (HM4.out.sinceD hz) 0 HBL.out).mono ?_
      rintro e wy ⟨u, rfl, ho, hb⟩
      rw [HMM.out, HBF.out] at ho
      exact ⟨u, rfl, ⟨_, ho⟩, hb⟩
    (try simp only [Act.put, List.setIfInBounds_toArray, List.set_cons_zero, List.set_cons_succ])
    refine SeqT.tie rfl (by decide) rfl (fun wz hz hd => ?_) (fun v19 _ _ => ?_)
    · obtain ⟨bs, ho⟩ := hd.all 18 (by decide) v18 _ _ rfl
      exact UponT.convert _ _ _ _ _ rfl rfl (own_str Try.underlying35 Try.underlying5 Try.underlying9 ho (by omega)) ⟨rfl, Since.refl _⟩
    (try simp only [Act.put, List.setIfInBounds_toArray, List.set_cons_zero, List.set_cons_succ])
    refine SeqT.run (v := ?_) rfl rfl (fun _ wz hz => ?_) ?_ ?_; rotate_left; (have hzc := hz.cell; have hzf := hz.frozen; go_simp; first | exact UponS.value (Since.refl _) | exact UponS.skip (Since.refl _)); (exact rfl); (try simp only [Act.put, List.setIfInBounds_toArray, List.set_cons_zero, List.set_cons_succ])
    refine SeqT.tie rfl (by decide) rfl (fun wz hz hd => ?_) (fun v21 _ _ => ?_)
    · have hzc := hz.cell
      go_simp
      refine UponT.call ?_
      go_at_call 49
      refine (ref11Bits_any (HR4.out.below ((Below.refl w5.heap.size w5).drew.trans hz.below)) HOK.out (by rw [List.length_replicate]; exact hlen) HFI.out 0 HBL.out).mono ?_
      rintro e wy ⟨u, rfl, ho, hb⟩
      rw [HMM.out, HBR.out] at ho
      exact ⟨u, rfl, ⟨_, ho⟩, hb⟩
    (try simp only [Act.put, List.setIfInBounds_toArray, List.set_cons_zero, List.set_cons_succ])
    refine SeqT.tie rfl (by decide) rfl (fun wz hz hd => ?_) (fun v22 _ _ => ?_)
    · obtain ⟨bs, ho⟩ := hd.all 21 (by decide) v21 _ _ rfl
      exact UponT.convert _ _ _ _ _ rfl rfl (own_str Try.underlying35 Try.underlying5 Try.underlying9 ho (by omega)) ⟨rfl, Since.refl _⟩
    (try simp only [Act.put, List.setIfInBounds_toArray, List.set_cons_zero, List.set_cons_succ])
    refine SeqT.tie rfl (by decide) rfl (fun wz hz hd => ?_) (fun v23 _ _ => ?_)
    · obtain rfl : v19 = .string (strOfNums (List.replicate M 0)) := hd.all 19 (by decide) v19 _ _ rfl
      obtain rfl : v22 = .string (strOfNums (List.replicate M 0)) := hd.all 22 (by decide) v22 _ _ rfl
      go_simp
      exact UponT.value ⟨rfl, Since.refl _⟩
    (try simp only [Act.put, List.setIfInBounds_toArray, List.set_cons_zero, List.set_cons_succ])
    refine SeqT.tie rfl (by decide) rfl (fun wz hz hd => ?_) (fun v24 _ _ => ?_)
    · obtain rfl : v23 = .bool true := hd.all 23 (by decide) v23 _ _ rfl
      go_simp
      exact UponT.value ⟨rfl, Since.refl _⟩
    (try simp only [Act.put, List.setIfInBounds_toArray, List.set_cons_zero, List.set_cons_succ])
    intro wz hz hi
    obtain rfl : v24 = .bool true := hi.all 24 v24 _ _ rfl
    go_wp2
    go_ret
    exact ⟨rfl, HB4.out.drew.trans (hz.below.mono HB4.out.size)⟩
  · rw [if_neg hno] at hp
    subst hp
    clear hb
    go_wp2_with fail
    go_ret
    exact ⟨rfl, HB2.out⟩

end Go.Proofs.Ytbfpnpoafepjjaa
