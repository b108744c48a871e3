/-
  The walks of the laws over package l2p: both; L2pNews.
-/
import Derived.Test.YtlkapaecaeldpaaLaw11b
import Derived.Test.YtlkapaecaeldpaaRef11b
set_option linter.unusedVariables false
set_option linter.unusedSimpArgs false
set_option maxRecDepth 16384
namespace Go.Proofs.Ytlkapaecaeldpaa
open Go.RowKit

theorem UponT.convert {P : Program} {R : Value → World → Prop} {w : World} {o : Oper} {a : Act} (s t : TypeId) (x : Operand) (v u : Value)
    (ho : o.op = .convert s t x) (hx : a.eval x = v) (hr : (Go.convert s t v).run P w = .ok u w) (h : R u w) : UponT P R ((execOp a.eval o).run P w) := by
  unfold execOp
  simp only [ho, Sem.run_bind, Sem.run_pure, Result.andThen_ok, hx, hr]
  exact h

theorem newPost_is {g : Geo} {n : Int} {w w' : World} {e : Ending} (h : RefNewPost g n w e w') (hk : newOk g n = true) :
    Below w.heap.size w w' ∧ ∃ r v, e = .returned (.tuple #[.pointer (some ⟨r, 0, none⟩), .int .i64 0]) ∧ RefAt w' w.heap.size r g (List.replicate n.toNat Ent.none) v := by
  obtain ⟨h1, h2⟩ := h
  rw [if_pos hk] at h2
  exact ⟨h1, h2⟩
theorem newPost_isno {g : Geo} {n : Int} {w w' : World} {e : Ending} (h : RefNewPost g n w e w') (hk : newOk g n = false) : Below w.heap.size w w' ∧ e = .returned (.tuple #[.pointer none, .int .i64 1]) := by
  obtain ⟨h1, h2⟩ := h
  rw [if_neg (by rw [hk]; decide)] at h2
  exact ⟨h1, h2⟩

/-- how both ends -/
def BothPost (g : Geo) (n : Int) (w : World) (e : Ending) (w' : World) : Prop :=
  Below w.heap.size w w' ∧
    (if newOk g n = true then ∃ B C m kt kw vb st sw r v, e = .returned (.tuple #[.pointer (some ⟨m, 0, none⟩), .pointer (some ⟨r, 0, none⟩), .bool true]) ∧ MapAt w' B C m g (List.replicate n.toNat Ent.none) kt kw vb st sw ∧ RefAt w' C r g (List.replicate n.toNat Ent.none) v ∧ w.heap.size ≤ B
      else e = .returned (.tuple #[.pointer none, .pointer none, .bool true]))

set_option maxHeartbeats 1000000 in
theorem both_any (g : Geo) (n : Int) (w : World) (hg : g.Wf) (hn : IsInt n) :
    Calls Try.prog 16 #[g.v, .int .i64 n] w fun e w' => BothPost g n w e w' := by
  have HW := Lib.hid hg
  have HI := Lib.hid hn
  clear hg hn
  obtain ⟨c, l, b, p, s⟩ := g
  have HG := Lib.hid (Blk.new w 23 [.int .i64 c, .int .i64 l, .int .i64 b, .int .i64 p, .int .i64 s])
  unfold Geo.v
  go_enter Try.func16, Try.ntmps16
  have hb0 : Below w.heap.size w (w.alloc (.cells #[.int .i64 c, .int .i64 l, .int .i64 b, .int .i64 p, .int .i64 s] 23)) := (Below.refl w.heap.size w).alloc (Nat.le_refl _) _
  have hb0s := hb0.size
  (go_wp2_with fail); refine (l2pNew_any ⟨c, l, b, p, s⟩ n _ HW.out HI.out).mono ?_
  intro e w1 hp
  by_cases hno : newOk ⟨c, l, b, p, s⟩ n = true
  · obtain ⟨hb, m, kt, kw, vb, st', sw, rfl, hm⟩ := newPost_ok hp hno
    have hk := HG.out.below hb; have k0 : w1.cell? ⟨w.heap.size, 0, none⟩ = some (.int .i64 c) := hk.cell 0; have k1 : w1.cell? ⟨w.heap.size, 1, none⟩ = some (.int .i64 l) := hk.cell 1; have k2 : w1.cell? ⟨w.heap.size, 2, none⟩ = some (.int .i64 b) := hk.cell 2; have k3 : w1.cell? ⟨w.heap.size, 3, none⟩ = some (.int .i64 p) := hk.cell 3; have k4 : w1.cell? ⟨w.heap.size, 4, none⟩ = some (.int .i64 s) := hk.cell 4; have hltk := hk.lt
    have HM1 := Lib.hid hm
    have HB1 := Lib.hid (hb0.trans (hb.mono hb0s))
    clear hp hm hb hk
    (go_wp2_with fail); refine (ref11New_any ⟨c, l, b, p, s⟩ n _ HW.out HI.out).mono ?_
    intro e w2 hp
    obtain ⟨hb, r, v, rfl, hr⟩ := newPost_is hp hno
    have HM2 := Lib.hid (HM1.out.below hb)
    have HR2 := Lib.hid hr
    have HB2 := Lib.hid (HB1.out.trans (hb.mono HB1.out.size))
    clear hp hb hr hb0
    go_wp2_with fail
    refine bodyPost_ret (v := .tuple #[.pointer (some ⟨m, 0, none⟩), .pointer (some ⟨r, 0, none⟩), .bool true]) (by simp [results, Try.results16, go_sem]) rfl ?_
    refine ⟨HB2.out, ?_⟩
    rw [if_pos hno]
    exact ⟨_, _, m, kt, kw, vb, st', sw, r, v, rfl, HM2.out, HR2.out, hb0s⟩
  · obtain ⟨hb, rfl⟩ := newPost_no hp (by simpa using hno)
    have hk := HG.out.below hb; have k0 : w1.cell? ⟨w.heap.size, 0, none⟩ = some (.int .i64 c) := hk.cell 0; have k1 : w1.cell? ⟨w.heap.size, 1, none⟩ = some (.int .i64 l) := hk.cell 1; have k2 : w1.cell? ⟨w.heap.size, 2, none⟩ = some (.int .i64 b) := hk.cell 2; have k3 : w1.cell? ⟨w.heap.size, 3, none⟩ = some (.int .i64 p) := hk.cell 3; have k4 : w1.cell? ⟨w.heap.size, 4, none⟩ = some (.int .i64 s) := hk.cell 4; have hltk := hk.lt
    have HB1 := Lib.hid (hb0.trans (hb.mono hb0s))
    clear hp hb hk
    (go_wp2_with fail); refine (ref11New_any ⟨c, l, b, p, s⟩ n _ HW.out HI.out).mono ?_
    intro e w2 hp
    obtain ⟨hb, rfl⟩ := newPost_isno hp (by simpa using hno)
    have HB2 := Lib.hid (HB1.out.trans (hb.mono HB1.out.size))
    clear hp hb hb0
    go_wp2_with fail
    refine bodyPost_ret (v := .tuple #[.pointer none, .pointer none, .bool true]) (by simp [results, Try.results16, go_sem]) rfl ?_
    refine ⟨HB2.out, ?_⟩
    rw [if_neg hno]

theorem bitsF_new (line : Int) (h0 : 0 ≤ line) (n : Nat) (l : Nat) : ∀ j, bitsF line (List.replicate n Ent.none) l j = List.replicate (makeN line) 0
  | 0 => rfl
  | j + 1 => by
    rw [bitsF, bitsF_new line h0 n l j]
    have h1 : 0 ≤ (l : Int) * line := Int.mul_nonneg (by omega) h0
    obtain ⟨k, hk⟩ : ∃ k : Nat, (l : Int) * line + j = k := ⟨((l : Int) * line + j).toNat, by omega⟩
    rw [hk, whoIx_new, if_neg (by simp)]
theorem bitsR_new (line : Int) (n : Nat) (l : Int) : ∀ j, bitsR line (List.replicate n Ent.none) l j = List.replicate (makeN line) 0
  | 0 => rfl
  | j + 1 => by
    rw [bitsR, bitsR_new line n l j, if_neg]
    intro h
    have h1 := h.1
    rw [List.getD_eq_getElem?_getD, List.getElem?_replicate] at h1
    split at h1 <;> simp [Ent.none] at h1

/-- what is known within the law's last line -/
def NewsJ (t : TypeId) (M : Nat) (ys : List Int) (i : Nat) (v : Value) (lo hi : Nat) (w : World) : Prop :=
  match i with
  | 18 => ∃ b, w.ownsRow b t 1 v M (bv ys)
  | 19 => v = .string (strOfNums ys)
  | 21 => ∃ b, w.ownsRow b t 1 v M (bv ys)
  | 22 => v = .string (strOfNums ys)
  | 23 => v = .bool true
  | 24 => v = .bool true
  | _ => True
theorem NewsJ.keep {t : TypeId} {M : Nat} {ys : List Int} (i : Nat) (v : Value) (lo hi : Nat) (w w' : World) (h : NewsJ t M ys i v lo hi w) (hs : Since w w') : NewsJ t M ys i v lo hi w' := by
  unfold NewsJ at *
  split at h
  · obtain ⟨b, h⟩ := h; exact ⟨b, own_below h hs⟩
  · exact h
  · obtain ⟨b, h⟩ := h; exact ⟨b, own_below h hs⟩
  · exact h
  · exact h
  · exact h
  · trivial


end Go.Proofs.Ytlkapaecaeldpaa
