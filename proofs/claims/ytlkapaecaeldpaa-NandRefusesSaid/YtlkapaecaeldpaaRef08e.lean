/-
  Package strakeref08: Erase.
-/
import Derived.Test.YtlkapaecaeldpaaRef08d
import Derived.Test.YtlkapaecaeldpaaRef07
import Derived.Test.YtlkapaecaeldpaaL2pB
set_option linter.unusedVariables false
set_option linter.unusedSimpArgs false
set_option maxRecDepth 16384
namespace Go.Proofs.Ytlkapaecaeldpaa
open Go.RowKit

theorem Sls.empty (w : World) (Q : Nat → Prop) : Sls w Q (.slice none 0 0) [] := ⟨none, 0, rfl, Nat.le_refl _, by simp, fun j xs h => by simp at h⟩

/-- one event behind the others, in a row that is laid -/
theorem EvsAt.snoc {t : TypeId} {w w1 : World} {Q Q' : Nat → Prop} {lg' : Value} {evs : List Ev} {xs : List Value} {e : Ev} {vd vo : Value}
    (h2 : ∀ j e, evs[j]? = some e → ∃ vd vo, xs[j * 5]? = some (.int .i64 e.unit) ∧ xs[j * 5 + 1]? = some (.int .i64 e.block) ∧ xs[j * 5 + 2]? = some (.int .i64 e.page) ∧ xs[j * 5 + 3]? = some vd ∧ xs[j * 5 + 4]? = some vo ∧ Sls w Q vd e.data ∧ Sls w Q vo e.oob ∧ e.data.length = e.oob.length)
    (hl : xs.length = evs.length * 5) (hs : w.heap.size ≤ w1.heap.size) (hk : ∀ k, k < w.heap.size → Q k → w1.heap[k]? = w.heap[k]?) (hQ : ∀ k, k < w1.heap.size → Q k → Q' k) (hd : Sls w1 Q' vd e.data) (ho : Sls w1 Q' vo e.oob) (hD : e.data.length = e.oob.length)
    (hown : w1.ownsRow 0 t 5 lg' (evs.length + 1) (xs ++ [.int .i64 e.unit, .int .i64 e.block, .int .i64 e.page, vd, vo])) : EvsAt t w1 Q' lg' (evs ++ [e]) := by
  refine ⟨_, by rw [List.length_append]; exact hown, fun j e' hj => ?_⟩
  rw [List.getElem?_append] at hj
  split at hj
  · rename_i hlt
    obtain ⟨vd', vo', q1, q2, q3, q4, q5, q6, q7, q8⟩ := h2 j e' hj
    have hb : ∀ {i : Nat} {v : Value}, xs[i]? = some v → (xs ++ [.int .i64 e.unit, .int .i64 e.block, .int .i64 e.page, vd, vo])[i]? = some v := fun {i v} h => by
      rw [List.getElem?_append_left (List.getElem?_eq_some_iff.1 h).1]
      exact h
    exact ⟨vd', vo', hb q1, hb q2, hb q3, hb q4, hb q5, (q6.keep hs hk).mono hQ, (q7.keep hs hk).mono hQ, q8⟩
  · rename_i hnl
    have hj0 : j - evs.length = 0 := by have := (List.getElem?_eq_some_iff.1 hj).1; simp at this; omega
    rw [hj0] at hj
    simp only [List.getElem?_cons_zero, Option.some.injEq] at hj
    subst hj
    have hj1 : j = evs.length := by omega
    have hb : ∀ i : Nat, (xs ++ [.int .i64 e.unit, .int .i64 e.block, .int .i64 e.page, vd, vo])[j * 5 + i]? = [.int .i64 e.unit, .int .i64 e.block, .int .i64 e.page, vd, vo][i]? := fun i => by
      rw [List.getElem?_append_right (by omega), show j * 5 + i - xs.length = i by omega]
    refine ⟨vd, vo, ?_, ?_, ?_, ?_, ?_, hd, ho, hD⟩
    · have := hb 0; exact this
    · exact hb 1
    · exact hb 2
    · exact hb 3
    · exact hb 4

theorem oneCell_ev (a b c : Int) (p q : Option Addr) (i j k l : Nat) : ∀ u ∈ [Value.int .i64 a, .int .i64 b, .int .i64 c, .slice p i j, .slice q k l], u.oneCell' = true := by
  intro u hu
  simp only [List.mem_cons, List.not_mem_nil, or_false] at hu
  rcases hu with rfl | rfl | rfl | rfl | rfl <;> rfl

theorem OnlyF.grownO {F : Nat → Prop} {a w w' : World} {row : Option Nat} (h : OnlyF F a w) (hb : ∀ k, row = some k → F k) (hg : w.grownBy w' row) : OnlyF F a w' :=
  h.trans (Fresh.refl F _) ⟨hg.os, hg.tape, hg.output, hg.size, fun k hk hn => hg.block k hk (fun e => hn (hb k e.symm))⟩

theorem RNPost.more {w : World} {F : Nat → Prop} {r : Nat} {g : Geo} {res : Value} {S : NSt} {m m' : Nat} {e : Ending} {w' : World} (h : RNPost w F r g res S m e w') (hm : m ≤ m') : RNPost w F r g res S m' e w' := by
  obtain ⟨h1, F', ⟨L, n, evs, pb, nx, wr, rt, lv, lg, h2⟩, h3, h4⟩ := h
  exact ⟨h1, F', ⟨L, n, evs, pb, nx, wr, rt, lv, lg, h2.more hm⟩, h3, h4⟩

theorem info_event : (Try.prog.info? 178).map (fun i => (i.zero, i.size, i.bytes)) = some (some (.agg #[.int .i64 0, .int .i64 0, .int .i64 0, .slice none 0 0, .slice none 0 0]), 5, 72) := by kernel_rfl

/-- the append to the log -/
theorem RNRaw.append {w w1 w' : World} {F : Nat → Prop} {r : Nat} {g : Geo} {S : NSt} {m : Nat} {L : List Int} {n : Nat} {evs : List Ev} {pb nx wr rt : Nat} {lv lg lg' : Value} (h : RNRaw w F r g S m L n evs pb nx wr rt lv lg)
    {xs : List Value} {e : Ev} {vd vo : Value} {sc : Nat → Option (List Int × List Int)}
    (h2 : ∀ j e, evs[j]? = some e → ∃ vd vo, xs[j * 5]? = some (.int .i64 e.unit) ∧ xs[j * 5 + 1]? = some (.int .i64 e.block) ∧ xs[j * 5 + 2]? = some (.int .i64 e.page) ∧ xs[j * 5 + 3]? = some vd ∧ xs[j * 5 + 4]? = some vo ∧ Sls w (RRows F r pb nx wr rt lg) vd e.data ∧ Sls w (RRows F r pb nx wr rt lg) vo e.oob ∧ e.data.length = e.oob.length)
    (hl : xs.length = evs.length * 5) (hw' : w' = w1.setCell ⟨r, 6, none⟩ lg')
    (hg : w.grownBy w1 lg.ownBlock) (hat : lg'.ownBlock = lg.ownBlock ∨ ∃ k, lg'.ownBlock = some k ∧ w.heap.size ≤ k)
    (hown : w1.ownsRow 0 178 5 lg' (evs.length + 1) (xs ++ [.int .i64 e.unit, .int .i64 e.block, .int .i64 e.page, vd, vo]))
    (hd : Sls w1 (RRows (fun k => F k ∨ w.heap.size ≤ k ∧ k < w1.heap.size) r pb nx wr rt lg') vd e.data) (ho : Sls w1 (RRows (fun k => F k ∨ w.heap.size ≤ k ∧ k < w1.heap.size) r pb nx wr rt lg') vo e.oob) (hD : e.data.length = e.oob.length)
    (hsc : ∀ a : Nat, sc a = if (a : Int) < g.all then evSec g (evs ++ [e]).reverse a else none) :
    RNRaw w' (fun k => F k ∨ w.heap.size ≤ k ∧ k < w'.heap.size) r g { S with sec := sc } (m + 1) L n (evs ++ [e]) pb nx wr rt lv lg' := by
  subst hw'
  have hsz1 : w.heap.size ≤ w1.heap.size := hg.size
  have hsz : (w1.setCell ⟨r, 6, none⟩ lg').heap.size = w1.heap.size := by simp
  have hkA : ∀ k, k < w.heap.size → lg.ownBlock ≠ some k → w1.heap[k]? = w.heap[k]? := fun k hk hne => hg.block k hk (fun e => hne e.symm)
  have hrl := h.inF _ h.mem.1
  have hrlg : lg.ownBlock ≠ some r := fun e => (h.logA r e).1 rfl
  have hblk1 : Blk w1 r 97 (refL g S pb nx wr rt lg) := (hkA r hrl hrlg).trans h.blk
  have hlgB : ∀ k, lg.ownBlock = some k → k < w.heap.size := fun k e => h.inF k (h.mem.2.2.2.2.2 k e)
  have hlg' : lg'.ownBlock = lg.ownBlock ∨ ∃ k, lg'.ownBlock = some k ∧ w.heap.size ≤ k ∧ k < (w1.setCell ⟨r, 6, none⟩ lg').heap.size := by
    rcases hat with ha | ⟨k, ha, hk⟩
    · exact .inl ha
    · refine .inr ⟨k, ha, hk, ?_⟩
      rw [hsz]
      exact (hown.lt _ ha).2
  have hF' : (fun k => F k ∨ w.heap.size ≤ k ∧ k < (w1.setCell ⟨r, 6, none⟩ lg').heap.size) = fun k => F k ∨ w.heap.size ≤ k ∧ k < w1.heap.size := by rw [hsz]
  have hEv : EvsAt 178 w1 (RRows (fun k => F k ∨ w.heap.size ≤ k ∧ k < w1.heap.size) r pb nx wr rt lg') lg' (evs ++ [e]) := by
    refine EvsAt.snoc h2 hl (by omega) (fun k hk hq => hkA k hk hq.2.2.2.2.2.2) (fun k hk hq => ?_) hd ho hD hown
    obtain ⟨q1, q2, q3, q4, q5, q6, q7⟩ := hq
    refine ⟨.inl q1, q2, q3, q4, q5, q6, ?_⟩
    rcases hat with ha | ⟨k', ha, hk'⟩
    · rw [ha]; exact q7
    · rw [ha]
      intro e
      have := h.inF k q1
      have e2 := Option.some.inj e
      omega
  refine h.logged (by rw [hsz]; omega) (fun k hk hne hno => (Below.heap_setCell _ _ _ _ hne).trans (hkA k hk hno)) (hblk1.set 6 lg') hlg' ?_ hsc
  rw [hF']
  refine hEv.keep (by simp) (fun k hk hq => Below.heap_setCell _ _ _ _ fun e => ?_) fun _ hq => hq
  rcases hq with hq | hq
  · exact hq.2.1 e
  · have e : k = r := e
    subst e
    rcases hat with ha | ⟨k', ha, hk'⟩
    · rw [ha] at hq; exact hrlg hq
    · rw [ha] at hq
      have e2 := Option.some.inj hq
      omega

set_option maxHeartbeats 4000000 in
theorem ref08Erase_any {w : World} {F : Nat → Prop} {r : Nat} {g : Geo} {S : NSt} {m : Nat} (H : RNAt w F r g S m) (hm : m ≤ 1000000) (u n : Int) :
    Calls Try.prog 105 #[.pointer (some ⟨r, 0, none⟩), .int .i64 u, .int .i64 n] w fun e w' => RNPost w F r g (.int .i64 (eraseTo g S u n).1) (eraseTo g S u n).2 (m + 1) e w' := by
  have HH := Lib.hid H
  obtain ⟨L, n0, evs, pb, nx, wr, rt, lv, lg, H⟩ := H
  have HP : Hid (eraseTo g S u n = if S.off = true then (5, S) else match findIx g u n with
    | none => (1, S.bad)
    | some i => if S.ret i = true then (10, S.bad) else (endE (nextP S.plan 0).1 9, NSt.cut { S with next := fun j => if j = i then (if (nextP S.plan 0).1 = 0 then 0 else g.pages) else S.next j, wear := fun j => if j = i then IntKind.i64.wrap (S.wear i + 1) else S.wear j, plan := S.plan.tail, many := IntKind.i64.wrap (S.many + 1), sec := clrBlock g S.sec u n } (nextP S.plan 0).1)) := Lib.hid rfl
  obtain ⟨R, hR⟩ : ∃ R, eraseTo g S u n = R := ⟨_, rfl⟩
  rw [hR] at HP
  rw [hR]
  clear hR
  have k10 : w.cell? ⟨r, 10, none⟩ = some (.bool S.off) := H.blk.cell 10
  have hrl := H.blk.lt
  clear H
  obtain ⟨O, hO⟩ : ∃ O, S.off = O := ⟨_, rfl⟩
  rw [hO] at k10
  by_cases hoff : O = true
  · subst hoff
    have HFIN : Hid (RNPost w F r g (.int .i64 R.1) R.2 (m + 1) (.returned (.int .i64 5)) w) := by
      show RNPost _ _ _ _ _ _ _ _ _
      rw [HP.out, if_pos hO]
      exact RNPost.more (m := m) ⟨rfl, F, HH.out, OnlyF.refl _ _, Fresh.refl _ _⟩ (by omega)
    clear hO
    go_enter Try.func105, Try.ntmps105
    go_wp2_with fail
    go_ret
    exact HFIN.out
  obtain rfl : O = false := by simpa using hoff
  have hp2 := HP.out
  rw [if_neg (by rw [hO]; decide)] at hp2
  have HP2 := Lib.hid hp2
  have HOF := Lib.hid hO
  clear hO hoff HP hp2
  go_enter Try.func105, Try.ntmps105
  (go_wp2_with fail); refine (ref08At_any HH.out u n).mono ?_
  rintro e w1 ⟨rfl, hb⟩
  have H1 := Lib.hid (HH.out.below hb)
  have HO1 := Lib.hid (OnlyF.below (F := F) hb)
  clear hb k10
  cases hf : findIx g u n with
  | none =>
    have HRX : Hid (R = (1, S.bad)) := by show _ = _; rw [HP2.out, hf]
    clear hf HP2
    simp only [atI]
    (go_wp2_with fail); refine (ref08Wrong_any H1.out 1).mono ?_
    intro e w9 hp
    obtain ⟨rfl, hq⟩ := hp
    have HFIN : Hid (RNPost w F r g (.int .i64 R.1) R.2 (m + 1) (.returned (.int .i64 1)) w9) := by
      show RNPost _ _ _ _ _ _ _ _ _
      rw [HRX.out]
      exact RNPost.from (F1 := F) (RNPost.more (m := m) ⟨rfl, hq⟩ (by omega)) HO1.out (Fresh.refl _ _)
    clear hq
    go_wp2_with fail
    go_ret
    exact HFIN.out
  | some i =>
    have hilt := findIx_lt hf
    have HILT := Lib.hid hilt
    have HR2 := HP2.out
    rw [hf] at HR2
    simp only at HR2
    have HR := Lib.hid HR2
    clear HR2 hf HP2
    obtain ⟨L, n0, evs, pb, nx, wr, rt, lv, lg, h1⟩ := H1.out
    have hN := (Geo.nb_le h1.ok).1
    obtain ⟨⟨x0, y0⟩, ⟨x1, y1⟩, x2, y2⟩ := h1.nxs i hilt
    have hbl0 := World.block_lt_of_cell? w1 _ x0
    have hbl1 := World.block_lt_of_cell? w1 _ x1
    have hbl2 := World.block_lt_of_cell? w1 _ x2
    have r7 : w1.cell? ⟨r, 7, none⟩ = some (.slice (some ⟨nx, 0, none⟩) g.nb g.nb) := h1.blk.cell 7
    have r8 : w1.cell? ⟨r, 8, none⟩ = some (.slice (some ⟨wr, 0, none⟩) g.nb g.nb) := h1.blk.cell 8
    have r9 : w1.cell? ⟨r, 9, none⟩ = some (.slice (some ⟨rt, 0, none⟩) g.nb g.nb) := h1.blk.cell 9
    have hrl1 := h1.blk.lt
    have HRW := Lib.hid h1
    obtain ⟨N, hNN⟩ : ∃ N, g.nb = N := ⟨_, rfl⟩
    have HNN := Lib.hid hNN
    rw [hNN] at hilt r7 r8 r9 hN
    have hi0 : (0 : Int) ≤ i := by omega
    have hi1 : (i : Int) < N := by omega
    clear h1 hNN
    simp only [atI]
    obtain ⟨RT, hRT⟩ : ∃ x, S.ret i = x := ⟨_, rfl⟩
    rw [hRT] at x2 HR
    clear hRT
    cases RT with
    | true =>
      have HRX : Hid (R = (10, S.bad)) := by show _ = _; rw [HR.out, if_pos rfl]
      clear HRW
      (go_wp2_with fail); refine (ref08Wrong_any H1.out 10).mono ?_
      intro e w9 hp
      obtain ⟨rfl, hq⟩ := hp
      have HFIN : Hid (RNPost w F r g (.int .i64 R.1) R.2 (m + 1) (.returned (.int .i64 10)) w9) := by
        show RNPost _ _ _ _ _ _ _ _ _
        rw [HRX.out]
        exact RNPost.from (F1 := F) (RNPost.more (m := m) ⟨rfl, hq⟩ (by omega)) HO1.out (Fresh.refl _ _)
      clear hq
      go_wp2_with fail
      go_ret
      exact HFIN.out
    | false =>
      have HR2 := HR.out
      rw [if_neg (by decide)] at HR2
      clear HR
      have HR := Lib.hid HR2
      clear HR2
      obtain ⟨WR, hWR⟩ : ∃ x, IntKind.i64.wrap (S.wear i + 1) = x := ⟨_, rfl⟩
      rw [hWR] at HR
      have H2 := Lib.hid (HRW.out.setWear HILT.out WR)
      have HO2 := Lib.hid (HO1.out.setCell (p := ⟨wr, i, none⟩) HRW.out.mem.2.2.2.1 (.int .i64 WR))
      have hap := HRW.out.apart
      have hrw : r ≠ wr := hap.2.2.1
      have r6 : w1.cell? ⟨r, 6, none⟩ = some lg := HRW.out.blk.cell 6
      have hfw : evs.length ≤ m := HRW.out.few.2
      obtain ⟨xs, hown, hev⟩ := H2.out.log
      have HW := Lib.hid hown
      have HV := Lib.hid hev
      have hlx := hown.1
      obtain ⟨i0, hif, hz0, hz1, hz2⟩ := info_parts info_event
      clear hap hown hev x0 y0 hlx
      go_wp2_with (first | (at_builtin; go_must (refine wpList_append_own_at _ rfl (.tmp 44) (.tmp 48) 94 rfl 0 178 i0 (.agg #[.int .i64 0, .int .i64 0, .int .i64 0, .slice none 0 0, .slice none 0 0]) 5 72 Try.underlying94 hif hz0 hz1 hz2 rfl (by decide) lg evs.length xs rfl (HW.out.alloc _) ⟨w1.heap.size, 0, none⟩ 1 1 [.int .i64 u, .int .i64 n, .int .i64 (-1), .slice none 0 0, .slice none 0 0] rfl rfl ?c1 (oneCell_ev _ _ _ _ _ _ _ _ _) (by unfold maxLen; omega) (by omega) (Nat.zero_le _) ?K)))
      case K =>
        intro v1 w3 hown hgrow hnil hat
        clear hnil
        have hsz3 : w1.heap.size + 1 ≤ w3.heap.size := by have := hgrow.size; simpa using this
        have hgw := H2.out.inF
        have hblk3 : Blk w3 r 97 (refL g { S with wear := fun j => if j = i then WR else S.wear j } pb nx wr rt lg) := by
          refine (hgrow.block r ?_ ?_).trans ((H2.out.blk).alloc _)
          · have := H2.out.blk.lt; simp at this ⊢; omega
          · exact fun e => (H2.out.logA r e.symm).1 rfl
        have h3 := (H2.out.append (w1 := w3) (e := ⟨u, n, -1, [], []⟩) (sc := clrBlock g S.sec u n) HV.out HW.out.1 rfl (grownBy_trans (grown_of_below ((Below.refl _ _).alloc (Nat.le_refl _) _) _) hgrow) (hat.imp (fun h => h) fun h => ⟨_, h, by simp⟩) hown (Sls.empty _ _) (Sls.empty _ _) rfl (evSec_erase H2.out.ok H2.out.sec u n))
        simp only [World.size_setCell] at h3
        have H3 := Lib.hid h3
        clear h3
        have r6' : w3.cell? ⟨r, 6, none⟩ = some lg := hblk3.cell 6
        have f6 := hblk3.free 6
        have r1' : w3.cell? ⟨r, 5, none⟩ = some (.pointer (some ⟨pb, 0, none⟩)) := hblk3.cell 5
        have hrl3 := hblk3.lt
        have HO3 : Hid (OnlyF F w (w3.setCell ⟨r, 6, none⟩ v1)) := by
          refine OnlyF.setCell ?_ (p := ⟨r, 6, none⟩) H2.out.mem.1 _
          exact OnlyF.grownO (HO2.out.step ((Below.refl _ _).alloc (Nat.le_refl _) _)) H2.out.mem.2.2.2.2.2 hgrow
        obtain ⟨g1, cp, rfl⟩ := own_form hown (by omega)
        have HMM := Lib.hid H3.out.mem.1
        clear hgrow hat hown hblk3
        (go_wp2_with fail); refine (ref07Next_any H3.out.pl H3.out.left (fun h => h.2.2.1 rfl) H3.out.leftB (by have := H3.out.few.1; omega) 0 ⟨by omega, by omega⟩).mono ?_
        intro e w5 hp
        obtain ⟨rfl, hpb, hpo⟩ := hp
        have hp5 := H3.out.plan
        simp only at hp5
        rw [← hp5]
        have HF3 := Lib.hid (show Fresh F (fun k => F k ∨ w1.heap.size ≤ k ∧ k < w3.heap.size) w.heap.size from fun k hk => hk.elim .inl fun hk => .inr (Nat.le_trans HO1.out.size hk.1))
        have h5 := H3.out.blockP hpo.size (fun k hk hne => hpo.block k hk hne) (n' := n0 + 1) (pl := S.plan.tail) (mny := IntKind.i64.wrap (S.many + 1)) (by have := HRW.out.few.1; omega) (by rw [hp5, List.tail_drop]) hpb
        have HO5 := Lib.hid (HO3.out.trans HF3.out (hpo.mono fun k hk => hk ▸ H3.out.mem.2.1))
        simp only at h5
        obtain ⟨r2, hr2⟩ : ∃ x, nextP S.plan 0 = x := ⟨_, rfl⟩
        have hsays := nextP_says (p := S.plan) (by rw [hp5]; exact fun x hx => HRW.out.leftB x (List.mem_of_mem_drop hx)) 0
        rw [hr2] at HR hsays ⊢
        obtain ⟨sy, kp⟩ := r2
        simp only at HR hsays ⊢
        have H5 := Lib.hid h5
        have hblk5 := h5.blk
        have r5' : w5.cell? ⟨r, 7, none⟩ = some (.slice (some ⟨nx, 0, none⟩) N N) := by have := hblk5.cell 7; unfold refL at this; rw [HNN.out] at this; exact this
        have r0' : w5.cell? ⟨r, 3, none⟩ = some (.int .i64 g.pages) := hblk5.cell 3
        have hrl5 := hblk5.lt
        obtain ⟨⟨x0, y0⟩, _, _⟩ := h5.nxs i HILT.out
        have hbl5 := World.block_lt_of_cell? w5 _ x0
        clear h5 hpb hpo hr2 hp5 r1' f6 r6' hrl3 hblk5
        go_wp2_with fail
        refine wp_region_b 11 (by kernel_rfl) (by kernel_rfl) ?_
        simp only [List.take_succ_cons, List.take_zero, List.drop_succ_cons, List.drop_zero]
        repeat (first
          | (refine SeqC.run (v := ?_) ?_ (fun wz hz => ?_) ?_; rotate_left; (· rfl); (· have hzc := hz.cell; have hzf := hz.frozen; go_simp; first | exact UponS.value hz | exact UponS.skip hz | (refine UponS.call ?_; fail)); (try simp only [Act.put, List.setIfInBounds_toArray, List.set_cons_zero, List.set_cons_succ]))
          | (refine SeqC.skip ?_ ?_; (· rfl); (try simp only [Act.put, List.setIfInBounds_toArray, List.set_cons_zero, List.set_cons_succ])))
        refine fun wz hz => ?_
        have hbz : Below w5.heap.size w5 wz := (Below.refl _ _).drew.trans hz.below
        have h6 := H5.out.below hbz
        have HO6 := Lib.hid (HO5.out.since hz)
        obtain ⟨⟨z0, z0'⟩, _, _⟩ := h6.nxs i HILT.out
        have hblz := World.block_lt_of_cell? wz _ z0
        have hblk6 := h6.blk
        have rz7 : wz.cell? ⟨r, 7, none⟩ = some (.slice (some ⟨nx, 0, none⟩) N N) := by have := hblk6.cell 7; unfold refL at this; rw [HNN.out] at this; exact this
        have rz10 : wz.cell? ⟨r, 10, none⟩ = some (.bool S.off) := hblk6.cell 10
        rw [HOF.out] at rz10
        have fz10 := hblk6.free 10
        have hrlz := hblk6.lt
        have hrn : r ≠ nx := h6.apart.2.1
        have HN7 := Lib.hid (h6.setNext HILT.out g.pages)
        have hmemn := h6.mem.2.2.1
        have hmemr := h6.mem.1
        have HO7 := Lib.hid (HO6.out.trans HF3.out ((OnlyF.refl _ _).setCell (p := ⟨nx, i, none⟩) hmemn (.int .i64 g.pages)))
        clear hz hbz h6 hblk6 x0 y0 r5' r0' hbl5 hrl5
        rcases hsays with rfl | rfl | rfl
        · have HN8 := Lib.hid (HN7.out.setNext HILT.out 0)
          have HFIN : Hid (RNPost w F r g (.int .i64 R.1) R.2 (m + 1) (.returned (.int .i64 0)) ((wz.setCell ⟨nx, i, none⟩ (.int .i64 g.pages)).setCell ⟨nx, i, none⟩ (.int .i64 0))) := by
            show RNPost _ _ _ _ _ _ _ _ _
            rw [HR.out]
            have hr := HN8.out
            have e : (fun j => if j = i then (0 : Int) else if j = i then g.pages else S.next j) = fun j => if j = i then (0 : Int) else S.next j := by
              funext j
              by_cases hj : j = i
              · rw [if_pos hj, if_pos hj]
              · rw [if_neg hj, if_neg hj, if_neg hj]
            simp only [e] at hr
            exact ⟨rfl, _, ⟨L, n0 + 1, _, pb, nx, wr, rt, lv, _, hr⟩, HO7.out.trans HF3.out ((OnlyF.refl _ _).setCell (p := ⟨nx, i, none⟩) hmemn _), HF3.out⟩
          go_wp2_with fail
          go_ret
          exact HFIN.out
        · have HFIN : Hid (RNPost w F r g (.int .i64 R.1) R.2 (m + 1) (.returned (.int .i64 9)) (wz.setCell ⟨nx, i, none⟩ (.int .i64 g.pages))) := by
            show RNPost _ _ _ _ _ _ _ _ _
            rw [HR.out]
            exact ⟨rfl, _, ⟨L, n0 + 1, _, pb, nx, wr, rt, lv, _, HN7.out⟩, HO7.out, HF3.out⟩
          go_wp2_with fail
          go_ret
          exact HFIN.out
        · have HN8 := Lib.hid (HN7.out.setOff true)
          have HFIN : Hid (RNPost w F r g (.int .i64 R.1) R.2 (m + 1) (.returned (.int .i64 5)) ((wz.setCell ⟨nx, i, none⟩ (.int .i64 g.pages)).setCell ⟨r, 10, none⟩ (.bool true))) := by
            show RNPost _ _ _ _ _ _ _ _ _
            rw [HR.out]
            exact ⟨rfl, _, ⟨L, n0 + 1, _, pb, nx, wr, rt, lv, _, HN8.out⟩, HO7.out.trans HF3.out ((OnlyF.refl _ _).setCell (p := ⟨r, 10, none⟩) hmemr _), HF3.out⟩
          go_wp2_with fail
          go_ret
          exact HFIN.out

end Go.Proofs.Ytlkapaecaeldpaa
