/-
  Package strakeref08: an event that is being filled; Program.
-/
import Derived.Test.YtlkapaecaeldpaaRef08e
import Derived.Test.YtlkapaecaeldpaaLaw08
set_option linter.unusedVariables false
set_option linter.unusedSimpArgs false
set_option maxRecDepth 16384
namespace Go.Proofs.Ytlkapaecaeldpaa
open Go.RowKit

theorem own_ne_own {w : World} {B B' s s' n n' : Nat} {t t' : TypeId} {v v' : Value} {xs xs' : List Value} (h : w.ownsRow B t s v n xs) (h' : w.ownsRow B' t' s' v' n' xs') (ht : t ≠ t') : v.ownBlock = none ∨ v.ownBlock ≠ v'.ownBlock := by
  rcases h.2 with ⟨rfl, _⟩ | ⟨g, cap, cur, rfl, h1, h2, _⟩
  · exact .inl rfl
  · rcases h'.2 with ⟨rfl, _⟩ | ⟨g', cap', cur', rfl, h1', h2', _⟩
    · exact .inr (by simp [Value.ownBlock])
    · refine .inr fun e => ?_
      simp only [Value.ownBlock, Option.some.injEq] at e
      subst e
      rw [h2] at h2'
      injection h2' with e
      injection e with _ e
      exact ht e

/-- a row of copies, all of one's own -/
def RowsAt (t tt : TypeId) (w : World) (B : Nat) (vd : Value) (xss : List (List Int)) : Prop :=
  ∃ row, w.ownsRow B tt 1 vd xss.length row ∧ ∀ (j : Nat) (x : List Int), xss[j]? = some x → ∃ vx, row[j]? = some vx ∧ w.ownsRow B t 1 vx x.length (bv x)

section
variable {t tt : TypeId} {w w1 : World} {B : Nat} {vd : Value} {xss : List (List Int)}
theorem RowsAt.nil (t tt : TypeId) (w : World) (B : Nat) : RowsAt t tt w B (.slice none 0 0) [] := ⟨[], World.ownsRow_nil _ _ _ _, fun j x h => by simp at h⟩
theorem RowsAt.below (h : RowsAt t tt w B vd xss) (hb : Below w.heap.size w w1) : RowsAt t tt w1 B vd xss := by
  obtain ⟨row, h1, h2⟩ := h
  refine ⟨row, own_below h1 hb, fun j x hj => ?_⟩
  obtain ⟨vx, q1, q2⟩ := h2 j x hj
  exact ⟨vx, q1, own_below q2 hb⟩
theorem RowsAt.grown (h : RowsAt t tt w B vd xss) {row : Option Nat} (hg : w.grownBy w1 row) (hne : vd.ownBlock = none ∨ vd.ownBlock ≠ row) (hin : ∀ vx n xs, w.ownsRow B t 1 vx n xs → vx.ownBlock = none ∨ vx.ownBlock ≠ row) : RowsAt t tt w1 B vd xss := by
  obtain ⟨rw_, h1, h2⟩ := h
  refine ⟨rw_, h1.kept hg hne, fun j x hj => ?_⟩
  obtain ⟨vx, q1, q2⟩ := h2 j x hj
  exact ⟨vx, q1, q2.kept hg (hin _ _ _ q2)⟩
theorem RowsAt.set (h : RowsAt t tt w B vd xss) {b : Nat} {t' : TypeId} {ys : List Value} (hb : Blk w b t' ys) (ht : t ≠ t') (htt : tt ≠ t') (o : Nat) (u : Value) : RowsAt t tt (w.setCell ⟨b, o, none⟩ u) B vd xss := by
  obtain ⟨_, h1, _⟩ := id h
  exact h.grown (grownBy_set _ _ _ _) (.inr (own_ne_blk h1 hb htt)) fun vx n xs q => .inr (own_ne_blk q hb ht)
theorem RowsAt.sls (h : RowsAt t tt w B vd xss) (hl : xss.length ≤ 100) (hx : ∀ x ∈ xss, x.length ≤ 100) : Sls w (fun k => B ≤ k ∧ k < w.heap.size) vd xss := by
  obtain ⟨row, ⟨h1, h2⟩, h3⟩ := h
  rcases h2 with ⟨rfl, h0⟩ | ⟨g, cap, cur, rfl, h5, h6, h7, h8, h9, h10⟩
  · refine ⟨none, 0, by rw [h0], by omega, by omega, fun j xs hj => ?_⟩
    have := (List.getElem?_eq_some_iff.1 hj).1
    omega
  · refine ⟨_, cap, rfl, h7, by omega, fun j xs hj => ?_⟩
    have hjl := (List.getElem?_eq_some_iff.1 hj).1
    obtain ⟨vx, q1, q2⟩ := h3 j xs hj
    have hgl := (Array.getElem?_eq_some_iff.1 h6).1
    refine ⟨g, 0, vx, rfl, ⟨h5, hgl⟩, hgl, ?_, ?_⟩
    · rw [← h10, List.getElem?_take, if_pos (by omega)] at q1
      rw [Nat.zero_add]
      simp only [World.cell?, h6]
      simpa using q1
    · exact SlQ.of_sl (Sl.of_own q2 (by rw [bv_length]; have := hx xs (List.mem_of_getElem? hj); omega))

/-- what is known within the copying of a row's member -/
def CopyJ (t tt : TypeId) (B : Nat) (vd : Value) (row : List Value) (x : List Int) (sz0 : Nat) (i : Nat) (v : Value) (lo hi : Nat) (w : World) : Prop :=
  match i with
  | 2 => ∃ g, v = .slice (some ⟨g, 0, none⟩) 0 0 ∧ B ≤ g ∧ Blk w g t []
  | 7 => w.ownsRow B t 1 v x.length (bv x)
  | 8 => ∃ g vx, v = .slice (some ⟨g, 0, none⟩) 1 1 ∧ Blk w g tt [vx] ∧ w.ownsRow B t 1 vx x.length (bv x)
  | 9 => ∃ vx, w.ownsRow B tt 1 v (row.length + 1) (row ++ [vx]) ∧ w.ownsRow B t 1 vx x.length (bv x) ∧ (v.ownBlock = vd.ownBlock ∨ ∃ b, v.ownBlock = some b ∧ sz0 ≤ b)
  | _ => True
theorem CopyJ.keep {row : List Value} {x : List Int} {sz0 : Nat} (i : Nat) (v : Value) (lo hi : Nat) (w w' : World) (h : CopyJ t tt B vd row x sz0 i v lo hi w) (hs : Since w w') : CopyJ t tt B vd row x sz0 i v lo hi w' := by
  unfold CopyJ at *
  split at h
  · obtain ⟨g, h1, h2, h3⟩ := h; exact ⟨g, h1, h2, h3.below hs⟩
  · exact own_below h hs
  · obtain ⟨g, vx, h1, h2, h3⟩ := h; exact ⟨g, vx, h1, h2.below hs, own_below h3 hs⟩
  · obtain ⟨vx, h1, h2, h3⟩ := h; exact ⟨vx, own_below h1 hs, own_below h2 hs, h3⟩
  · trivial
/-- the row behind it -/
theorem RowsAt.copied {row : List Value} {x : List Int} {vx v9 : Value} (h1 : w.ownsRow B tt 1 vd xss.length row) (h2 : ∀ (j : Nat) (x : List Int), xss[j]? = some x → ∃ vx, row[j]? = some vx ∧ w.ownsRow B t 1 vx x.length (bv x)) (ht : t ≠ tt) (hg : w.grownBy w1 vd.ownBlock) (hr : w1.ownsRow B tt 1 v9 (row.length + 1) (row ++ [vx])) (hx : w1.ownsRow B t 1 vx x.length (bv x)) : RowsAt t tt w1 B v9 (xss ++ [x]) := by
  have hl : row.length = xss.length := by have := h1.1; omega
  refine ⟨row ++ [vx], by rw [List.length_append, ← hl]; exact hr, fun j y hj => ?_⟩
  rw [List.getElem?_append] at hj
  split at hj
  · obtain ⟨vy, q1, q2⟩ := h2 j y hj
    exact ⟨vy, by rw [List.getElem?_append_left (List.getElem?_eq_some_iff.1 q1).1]; exact q1, q2.kept hg (own_ne_own q2 h1 ht)⟩
  · rename_i hnl
    have hj0 : j - xss.length = 0 := by have := (List.getElem?_eq_some_iff.1 hj).1; simp at this; omega
    rw [hj0] at hj
    simp only [List.getElem?_cons_zero, Option.some.injEq] at hj
    subst hj
    have hj1 : j = row.length := by omega
    exact ⟨vx, by rw [hj1]; simp, hx⟩
end

/-- an event, so far -/
structure EvLoc (w : World) (B eb : Nat) (u n page : Int) (vd vo : Value) (xd xo : List (List Int)) : Prop where
  blk : Blk w eb 178 [.int .i64 u, .int .i64 n, .int .i64 page, vd, vo]
  d : RowsAt 5 45 w B vd xd
  o : RowsAt 5 45 w B vo xo
  ap : (vo.ownBlock = none ∨ vo.ownBlock ≠ vd.ownBlock) ∧ (vd.ownBlock = none ∨ vd.ownBlock ≠ vo.ownBlock)

theorem EvLoc.below {w w1 : World} {B eb : Nat} {u n page : Int} {vd vo : Value} {xd xo : List (List Int)} (h : EvLoc w B eb u n page vd vo xd xo) (hb : Below w.heap.size w w1) : EvLoc w1 B eb u n page vd vo xd xo := ⟨h.blk.below hb, h.d.below hb, h.o.below hb, h.ap⟩

theorem fresh_ne2 {u v1 v : Value} {k N : Nat} (hu : ∀ k, u.ownBlock = some k → k < N) (hne : (u.ownBlock = none ∨ u.ownBlock ≠ v.ownBlock) ∧ (v.ownBlock = none ∨ v.ownBlock ≠ u.ownBlock)) (hv : v1.ownBlock = v.ownBlock ∨ ∃ k, v1.ownBlock = some k ∧ N ≤ k) :
    (u.ownBlock = none ∨ u.ownBlock ≠ v1.ownBlock) ∧ (v1.ownBlock = none ∨ v1.ownBlock ≠ u.ownBlock) := by
  rcases hv with h | ⟨k, h, hk⟩
  · rw [h]; exact hne
  · have hu : u.ownBlock ≠ some k := fun e => by have := hu k e; omega
    rw [h]
    exact ⟨.inr hu, .inr fun e => hu e.symm⟩

theorem EvLoc.stepD {w w1 : World} {B eb : Nat} {u n page : Int} {vd vo : Value} {xd xo : List (List Int)} (h : EvLoc w B eb u n page vd vo xd xo) {row : List Value} {x : List Int} {vx v9 : Value} (h1 : w.ownsRow B 45 1 vd xd.length row) (h2 : ∀ (j : Nat) (x : List Int), xd[j]? = some x → ∃ vx, row[j]? = some vx ∧ w.ownsRow B 5 1 vx x.length (bv x)) (hg : w.grownBy w1 vd.ownBlock)
    (hr : w1.ownsRow B 45 1 v9 (row.length + 1) (row ++ [vx])) (hx : w1.ownsRow B 5 1 vx x.length (bv x)) (hat : v9.ownBlock = vd.ownBlock ∨ ∃ b, v9.ownBlock = some b ∧ w.heap.size ≤ b) : EvLoc (w1.setCell ⟨eb, 3, none⟩ v9) B eb u n page v9 vo (xd ++ [x]) xo := by
  have hb1 : Blk w1 eb 178 [.int .i64 u, .int .i64 n, .int .i64 page, vd, vo] := h.blk.grown hg (own_ne_blk h1 h.blk (by decide))
  obtain ⟨rowo, ho, _⟩ := id h.o
  exact ⟨hb1.set 3 v9, (RowsAt.copied h1 h2 (by decide) hg hr hx).set hb1 (by decide) (by decide) _ _, (h.o.grown hg h.ap.1 fun vx n xs q => own_ne_own q h1 (by decide)).set hb1 (by decide) (by decide) _ _, fresh_ne2 (fun k e => (ho.lt k e).2) h.ap hat (k := 0)⟩
theorem EvLoc.stepO {w w1 : World} {B eb : Nat} {u n page : Int} {vd vo : Value} {xd xo : List (List Int)} (h : EvLoc w B eb u n page vd vo xd xo) {row : List Value} {x : List Int} {vx v9 : Value} (h1 : w.ownsRow B 45 1 vo xo.length row) (h2 : ∀ (j : Nat) (x : List Int), xo[j]? = some x → ∃ vx, row[j]? = some vx ∧ w.ownsRow B 5 1 vx x.length (bv x)) (hg : w.grownBy w1 vo.ownBlock)
    (hr : w1.ownsRow B 45 1 v9 (row.length + 1) (row ++ [vx])) (hx : w1.ownsRow B 5 1 vx x.length (bv x)) (hat : v9.ownBlock = vo.ownBlock ∨ ∃ b, v9.ownBlock = some b ∧ w.heap.size ≤ b) : EvLoc (w1.setCell ⟨eb, 4, none⟩ v9) B eb u n page vd v9 xd (xo ++ [x]) := by
  have hb1 : Blk w1 eb 178 [.int .i64 u, .int .i64 n, .int .i64 page, vd, vo] := h.blk.grown hg (own_ne_blk h1 h.blk (by decide))
  obtain ⟨rowd, hd, _⟩ := id h.d
  exact ⟨hb1.set 4 v9, (h.d.grown hg h.ap.2 fun vx n xs q => own_ne_own q h1 (by decide)).set hb1 (by decide) (by decide) _ _, (RowsAt.copied h1 h2 (by decide) hg hr hx).set hb1 (by decide) (by decide) _ _, (fresh_ne2 (fun k e => (hd.lt k e).2) h.ap.symm hat (k := 0)).symm⟩

/-- more blocks are called the device's -/
theorem RNRaw.wide {w : World} {F F2 : Nat → Prop} {r : Nat} {g : Geo} {S : NSt} {m : Nat} {L : List Int} {n : Nat} {evs : List Ev} {pb nx wr rt : Nat} {lv lg : Value} (h : RNRaw w F r g S m L n evs pb nx wr rt lv lg) (hF : ∀ k, F k → F2 k) (hin : ∀ k, F2 k → k < w.heap.size) : RNRaw w F2 r g S m L n evs pb nx wr rt lv lg := by
  obtain ⟨m1, m2, m3, m4, m5, m6⟩ := h.mem
  exact ⟨h.blk, h.pl, h.left.mono fun k _ hq => ⟨hF k hq.1, hq.2⟩, h.leftB, h.plan, h.nxs, h.log.keep (Nat.le_refl _) (fun _ _ _ => rfl) fun k hq => ⟨hF k hq.1, hq.2⟩, h.sec, ⟨hF _ m1, hF _ m2, hF _ m3, hF _ m4, hF _ m5, fun k e => hF k (m6 k e)⟩, h.apart, h.logA, hin, h.ok, h.few⟩

end Go.Proofs.Ytlkapaecaeldpaa
