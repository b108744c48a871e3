/-
  Package strakeref08: New, Retired.
-/
import Derived.Test.YtlkapaecaeldpaaRef08
import Derived.Test.YtlkapaecaeldpaaNandH
set_option linter.unusedVariables false
set_option linter.unusedSimpArgs false
set_option maxRecDepth 16384
namespace Go.Proofs.Ytlkapaecaeldpaa
open Go.RowKit

section
variable {w w' : World} {F : Nat → Prop} {r : Nat} {g : Geo} {S : NSt} {m : Nat} {L : List Int} {n : Nat} {evs : List Ev} {pb nx wr rt : Nat} {lv lg : Value}

/-- one of the three rows is written -/
theorem RNRaw.setRow (h : RNRaw w F r g S m L n evs pb nx wr rt lv lg) (hs : w.heap.size ≤ w'.heap.size) {X : Nat} (hX : X = nx ∨ X = wr ∨ X = rt) (hk : ∀ k, k < w.heap.size → k ≠ X → w'.heap[k]? = w.heap[k]?) {nf wf : Nat → Int} {rf : Nat → Bool}
    (hn : ∀ i, i < g.nb → At w' nx i (.int .i64 (nf i)) ∧ At w' wr i (.int .i64 (wf i)) ∧ At w' rt i (.bool (rf i))) : RNRaw w' F r g { S with next := nf, wear := wf, ret := rf } m L n evs pb nx wr rt lv lg := by
  obtain ⟨m1, m2, m3, m4, m5, m6⟩ := h.mem
  obtain ⟨a1, a2, a3, a4, a5, a6, a7, a8, a9, a10⟩ := h.apart
  have hne : ∀ k, k ≠ nx ∧ k ≠ wr ∧ k ≠ rt → k ≠ X := by
    rintro k ⟨h1, h2, h3⟩ rfl
    rcases hX with e | e | e
    · exact h1 e
    · exact h2 e
    · exact h3 e
  exact ⟨(hk r (h.inF _ m1) (hne _ ⟨a2, a3, a4⟩)).trans h.blk, (hk pb (h.inF _ m2) (hne _ ⟨a5, a6, a7⟩)).trans h.pl, h.left.keep hs fun k hl hr => hk k hl (hne _ ⟨hr.2.2.2.1, hr.2.2.2.2.1, hr.2.2.2.2.2.1⟩), h.leftB, h.plan, hn,
    h.log.keep hs (fun k hl hq => hk k hl (hq.elim (fun hr => hne _ ⟨hr.2.2.2.1, hr.2.2.2.2.1, hr.2.2.2.2.2.1⟩) (fun hq => hne _ (h.logA k hq).2.2))) (fun _ hq => hq), h.sec, h.mem, h.apart, h.logA, fun k hf => Nat.lt_of_lt_of_le (h.inF k hf) hs, h.ok, h.few⟩

theorem RNRaw.setRet (h : RNRaw w F r g S m L n evs pb nx wr rt lv lg) {i : Nat} (hi : i < g.nb) (x : Bool) : RNRaw (w.setCell ⟨rt, i, none⟩ (.bool x)) F r g { S with ret := fun j => if j = i then x else S.ret j } m L n evs pb nx wr rt lv lg := by
  refine h.setRow (by simp) (.inr (.inr rfl)) (fun k _ hk => Below.heap_setCell _ _ _ _ hk) fun j hj => ?_
  obtain ⟨a1, a2, a3, a4, a5, a6, a7, a8, a9, a10⟩ := h.apart
  obtain ⟨h1, h2, h3⟩ := h.nxs j hj
  have e1 := h1.set (b2 := rt) (o2 := i) (.bool x)
  have e2 := h2.set (b2 := rt) (o2 := i) (.bool x)
  have e3 := h3.set (b2 := rt) (o2 := i) (.bool x)
  rw [if_neg (by omega)] at e1 e2
  refine ⟨e1, e2, ?_⟩
  by_cases hji : j = i
  · rw [if_pos ⟨rfl, hji⟩] at e3
    rw [if_pos hji]
    exact e3
  · rw [if_neg (by omega)] at e3
    rw [if_neg hji]
    exact e3
end

set_option maxHeartbeats 1000000 in
theorem ref08Retired_any {w : World} {F : Nat → Prop} {r : Nat} {g : Geo} {S : NSt} {m : Nat} (H : RNAt w F r g S m) (u n : Int) :
    Calls Try.prog 27 #[.pointer (some ⟨r, 0, none⟩), .int .i64 u, .int .i64 n] w fun e w' => e = .returned (.bool (retO S (findIx g u n))) ∧ Below w.heap.size w w' := by
  have HH := Lib.hid H
  go_enter Try.func27, Try.ntmps27
  (go_wp2_with fail); refine (ref08At_any HH.out u n).mono ?_
  rintro e w1 ⟨rfl, hb⟩
  obtain ⟨L, n0, evs, pb, nx, wr, rt, lv, lg, H1⟩ := HH.out.below hb
  have HB1 := Lib.hid hb
  obtain ⟨hnb1, _, _⟩ := Geo.nb_le H1.ok
  cases hf : findIx g u n with
  | none =>
    have HFX := Lib.hid hf
    simp only [atI]
    clear hb H1 hf H hnb1
    go_wp2_with fail
    go_ret
    exact ⟨by rw [HFX.out]; rfl, HB1.out⟩
  | some i =>
    have hil := findIx_lt hf
    obtain ⟨_, _, hx⟩ := H1.nxs i hil
    have HFX := Lib.hid hf
    have r9 : w1.cell? ⟨r, 9, none⟩ = some (.slice (some ⟨rt, 0, none⟩) g.nb g.nb) := H1.blk.cell 9
    have hrl := H1.blk.lt
    obtain ⟨N, hN⟩ : ∃ N, g.nb = N := ⟨_, rfl⟩
    rw [hN] at hil r9
    obtain ⟨hx0, hx1⟩ := hx
    have hxl := World.block_lt_of_cell? w1 _ hx0
    obtain ⟨R, hR⟩ : ∃ R, S.ret i = R := ⟨_, rfl⟩
    have HRR := Lib.hid hR
    rw [hR] at hx0
    have hi0 : (0 : Int) ≤ i := by omega
    have hi1 : (i : Int) < N := by omega
    simp only [atI]
    clear hb H1 hf H hN hR hnb1 hx1
    go_wp2_with fail
    go_ret
    exact ⟨by rw [HFX.out]; simp only [retO, HRR.out]; rfl, HB1.out⟩

/-- the parts of a new one -/
structure RParts (w : World) (base top N p nx wr rt : Nat) (lv : Value) : Prop where
  pl : Blk w p 166 [lv, .int .i64 0]
  left : SlQ w (fun k => base ≤ k ∧ k < top ∧ k ≠ p ∧ k ≠ nx ∧ k ≠ wr ∧ k ≠ rt) lv (bv [])
  bn : Blk w nx 3 (List.replicate N (.int .i64 0))
  bw : Blk w wr 3 (List.replicate N (.int .i64 0))
  br : Blk w rt 4 (List.replicate N (.bool false))
  inP : base ≤ p ∧ p < top
  inN : base ≤ nx ∧ nx < top
  inW : base ≤ wr ∧ wr < top
  inR : base ≤ rt ∧ rt < top
  apart : p ≠ nx ∧ p ≠ wr ∧ p ≠ rt ∧ nx ≠ wr ∧ nx ≠ rt ∧ wr ≠ rt
  top : top ≤ w.heap.size
theorem RParts.since {w w' : World} {base top N p nx wr rt : Nat} {lv : Value} (h : RParts w base top N p nx wr rt lv) (hs : Below w.heap.size w w') : RParts w' base top N p nx wr rt lv :=
  ⟨h.pl.below hs, h.left.keep hs.size fun k hk _ => hs.block k hk, h.bn.below hs, h.bw.below hs, h.br.below hs, h.inP, h.inN, h.inW, h.inR, h.apart, Nat.le_trans h.top hs.size⟩

def rnV (g : Geo) (N p nx wr rt : Nat) : List Value := [.int .i64 g.chans, .int .i64 g.luns, .int .i64 g.blocks, .int .i64 g.pages, .int .i64 g.sectors, .pointer (some ⟨p, 0, none⟩), .slice none 0 0, .slice (some ⟨nx, 0, none⟩) N N, .slice (some ⟨wr, 0, none⟩) N N, .slice (some ⟨rt, 0, none⟩) N N, .bool false, .int .i64 0]

def RNewJ (g : Geo) (base N : Nat) (i : Nat) (v : Value) (lo hi : Nat) (w : World) : Prop :=
  match i with
  | 1 => ∃ p lv, v = .pointer (some ⟨p, 0, none⟩) ∧ Blk w p 166 [lv, .int .i64 0] ∧ SlQ w (fun k => lo ≤ k ∧ k < hi ∧ k ≠ p) lv (bv []) ∧ (lo ≤ p ∧ p < hi) ∧ base ≤ lo
  | 3 => ∃ b, v = .slice (some ⟨b, 0, none⟩) N N ∧ Blk w b 3 (List.replicate N (.int .i64 0)) ∧ (lo ≤ b ∧ b < hi) ∧ base ≤ lo
  | 5 => ∃ b, v = .slice (some ⟨b, 0, none⟩) N N ∧ Blk w b 3 (List.replicate N (.int .i64 0)) ∧ (lo ≤ b ∧ b < hi) ∧ base ≤ lo
  | 7 => ∃ b, v = .slice (some ⟨b, 0, none⟩) N N ∧ Blk w b 4 (List.replicate N (.bool false)) ∧ (lo ≤ b ∧ b < hi) ∧ base ≤ lo
  | 8 => ∃ top p nx wr rt lv, v = .agg (rnV g N p nx wr rt).toArray ∧ RParts w base top N p nx wr rt lv
  | 9 => ∃ r top p nx wr rt lv, v = .pointer (some ⟨r, 0, none⟩) ∧ Blk w r 97 (rnV g N p nx wr rt) ∧ RParts w base top N p nx wr rt lv ∧ top ≤ r ∧ base ≤ r
  | _ => True
theorem RNewJ.keep {g : Geo} {base N : Nat} (i : Nat) (v : Value) (lo hi : Nat) (w w' : World) (h : RNewJ g base N i v lo hi w) (hs : Since w w') : RNewJ g base N i v lo hi w' := by
  unfold RNewJ at *
  split at h
  · obtain ⟨p, lv, h1, h2, h3, h4, h5⟩ := h; exact ⟨p, lv, h1, h2.below hs, h3.keep hs.size fun k hk _ => hs.block k hk, h4, h5⟩
  · obtain ⟨b, h1, h2, h3⟩ := h; exact ⟨b, h1, h2.below hs, h3⟩
  · obtain ⟨b, h1, h2, h3⟩ := h; exact ⟨b, h1, h2.below hs, h3⟩
  · obtain ⟨b, h1, h2, h3⟩ := h; exact ⟨b, h1, h2.below hs, h3⟩
  · obtain ⟨top, p, nx, wr, rt, lv, h1, h2⟩ := h; exact ⟨top, p, nx, wr, rt, lv, h1, h2.since hs⟩
  · obtain ⟨r, top, p, nx, wr, rt, lv, h1, h2, h3, h4⟩ := h; exact ⟨r, top, p, nx, wr, rt, lv, h1, h2.below hs, h3.since hs, h4⟩
  · trivial

/-- how the document's New ends -/
def RNNPost (w : World) (g : Geo) (bad : List Int) (e : Ending) (w' : World) : Prop :=
  Below w.heap.size w w' ∧
    (if badOk g bad = true then ∃ r F, e = .returned (.tuple #[.pointer (some ⟨r, 0, none⟩), .int .i64 0]) ∧ RNAt w' F r g (newS bad) 0 ∧ ∀ k, F k → w.heap.size ≤ k
      else e = .returned (.tuple #[.pointer none, .int .i64 1]))

theorem info_bool : (Try.prog.info? 4).map (fun i => (i.zero, i.size, i.bytes)) = some (some (.bool false), 1, 1) := by kernel_rfl
theorem at_rep {w : World} {b N : Nat} {t : TypeId} {v : Value} (h : Blk w b t (List.replicate N v)) {i : Nat} (hi : i < N) : At w b i v := by
  refine ⟨?_, h.free i⟩
  rw [h.cell, List.getElem?_replicate, if_pos hi]

set_option maxHeartbeats 4000000 in
theorem ref08New_any (g : Geo) (v : Value) (bad : List Int) (w : World) (hg : g.Wf) (hs : Sl w 0 v (iv bad)) (hl : bad.length ≤ 1000000) :
    Calls Try.prog 25 #[g.v, v] w fun e w' => RNNPost w g bad e w' := by
  have HS := Lib.hid hs
  obtain ⟨a, cap, rfl, h1, h2, h3⟩ := hs.ints
  have HBO : Hid (badOk g bad = (g.okB && decide (∀ x ∈ bad, 0 ≤ x ∧ x < (g.nb : Nat)))) := Lib.hid rfl
  have HW := Lib.hid hg
  by_cases hok : g.okB = true
  · have HK := Lib.hid hok
    obtain ⟨hnb1, hnb2, hnb3⟩ := Geo.nb_le hok
    obtain ⟨N, hN⟩ : ∃ N, g.nb = N := ⟨_, rfl⟩
    rw [hN] at HBO hnb1 hnb2 hnb3
    have HN := Lib.hid hN
    have hU : Hid (∀ wy, Calls Try.prog 63 #[g.v] wy fun e w' => e = .returned (.int .i64 (g.chans * g.luns)) ∧ Below wy.heap.size wy w') := fun wy => ref03Units_ok g hok wy
    have hmk := makeRow (P := Try.prog) 49 3 (.int .i64 0) 8 Try.underlying49 info_int rfl N (by omega) (by omega)
    have hmb := makeRow (P := Try.prog) 95 4 (.bool false) 1 Try.underlying95 info_bool rfl N (by omega) (by omega)
    obtain ⟨c, l, b, p, s⟩ := g
    simp only at hnb2 hU
    obtain ⟨U, hU2⟩ : ∃ U, c * l = U := ⟨_, rfl⟩
    rw [hU2] at hU hnb2
    have hwu : IntKind.i64.wrap (U * b) = (N : Int) := by rw [hnb2]; exact wrap_in _ ⟨by omega, by omega⟩
    have HG := Lib.hid (Blk.new w 23 [.int .i64 c, .int .i64 l, .int .i64 b, .int .i64 p, .int .i64 s])
    have HB0 : Hid (Below w.heap.size w (w.alloc (.cells #[.int .i64 c, .int .i64 l, .int .i64 b, .int .i64 p, .int .i64 s] 23))) := Lib.hid ((Below.refl w.heap.size w).alloc (Nat.le_refl _) _)
    unfold Geo.v at hU ⊢
    clear hok hN hnb2 hU2 hs hg h3
    go_enter Try.func25, Try.ntmps25
    go_wp2_with fail
    refine wp_region_b 5 (by kernel_rfl) (by kernel_rfl) ?_
    simp only [List.take_succ_cons, List.take_zero, List.drop_succ_cons, List.drop_zero]
    repeat (first
      | (refine SeqC.run (v := ?_) ?_ (fun wz hz => ?_) ?_; rotate_left; (· rfl); (· have hzc := hz.cell; have hzf := hz.frozen; go_simp; first | exact UponS.value hz | exact UponS.skip hz | (refine UponS.call ?_; (go_at_call 63; refine (hU.out _).mono ?_; rintro e wy ⟨rfl, hb⟩; refine ⟨?_, hz.step hb⟩; rfl))); (try simp only [Act.put, List.setIfInBounds_toArray, List.set_cons_zero, List.set_cons_succ]))
      | (refine SeqC.skip ?_ ?_; (· rfl); (try simp only [Act.put, List.setIfInBounds_toArray, List.set_cons_zero, List.set_cons_succ])))
    refine fun wz hz => ?_
    have hbz : Below (w.alloc (.cells #[.int .i64 c, .int .i64 l, .int .i64 b, .int .i64 p, .int .i64 s] 23)).heap.size (w.alloc (.cells #[.int .i64 c, .int .i64 l, .int .i64 b, .int .i64 p, .int .i64 s] 23)) wz := (Below.refl _ _).drew.trans hz.below
    have hk := HG.out.below hbz
    have HG1 := Lib.hid hk
    have HB1 := Lib.hid (HB0.out.trans (hbz.mono (by simp)))
    have k0 : wz.cell? ⟨w.heap.size, 0, none⟩ = some (.int .i64 c) := hk.cell 0; have k1 : wz.cell? ⟨w.heap.size, 1, none⟩ = some (.int .i64 l) := hk.cell 1; have k2 : wz.cell? ⟨w.heap.size, 2, none⟩ = some (.int .i64 b) := hk.cell 2; have k3 : wz.cell? ⟨w.heap.size, 3, none⟩ = some (.int .i64 p) := hk.cell 3; have k4 : wz.cell? ⟨w.heap.size, 4, none⟩ = some (.int .i64 s) := hk.cell 4
    have hltk := hk.lt
    clear hk hbz hz
    (go_wp2_with fail); refine (ref03Right_any ⟨c, l, b, p, s⟩ _).mono ?_
    rintro e w1 ⟨rfl, hb⟩
    rw [HK.out]
    have hk := HG1.out.below hb
    have HG2 := Lib.hid hk
    have HB2 := Lib.hid (HB1.out.trans (hb.mono HB1.out.size))
    have k0 : w1.cell? ⟨w.heap.size, 0, none⟩ = some (.int .i64 c) := hk.cell 0; have k1 : w1.cell? ⟨w.heap.size, 1, none⟩ = some (.int .i64 l) := hk.cell 1; have k2 : w1.cell? ⟨w.heap.size, 2, none⟩ = some (.int .i64 b) := hk.cell 2; have k3 : w1.cell? ⟨w.heap.size, 3, none⟩ = some (.int .i64 p) := hk.cell 3; have k4 : w1.cell? ⟨w.heap.size, 4, none⟩ = some (.int .i64 s) := hk.cell 4
    have hltk1 := hk.lt
    clear hk hb hwu
    go_wp2_with fail
    refine wp_region_t 10 [(1, []), (3, []), (5, []), (7, []), (8, [1, 3, 5, 7]), (9, [8])] 11 (RNewJ ⟨c, l, b, p, s⟩ w1.heap.size N) [?_, undef, ?_, undef, ?_, undef, ?_, undef, undef, undef] (by kernel_rfl) (by kernel_rfl) (by kernel_rfl) RNewJ.keep ?_
    rotate_left 4
    simp only [List.take_succ_cons, List.take_zero, List.drop_succ_cons, List.drop_zero]
    refine SeqT.run (v := ?_) rfl rfl (fun _ wz hz => ?_) ?_ ?_; rotate_left; (have hzc := hz.cell; have hzf := hz.frozen; go_simp; first | exact UponS.value (Since.refl _) | exact UponS.skip (Since.refl _)); (exact rfl); (try simp only [Act.put, List.setIfInBounds_toArray, List.set_cons_zero, List.set_cons_succ])
    refine SeqT.tie rfl (by decide) rfl (fun wz hz hd => ?_) (fun v1 _ _ => ?_)
    · clear hd
      go_simp
      refine UponT.call ?_
      go_at_call 81
      refine (ref07New_any _ [] wz (show Sl wz 0 (.slice none 0 0) (bv []) from (SlQ.nil wz (fun _ => True)).sl)).mono ?_
      intro e wy hp
      obtain ⟨p', lv', rfl, hpb, hpl, hple, hbw⟩ := hp
      refine ⟨_, rfl, ⟨p', lv', rfl, hpb, hpl.mono fun k hk hq => ⟨hq.1, hk, hq.2⟩, ⟨hple, hpb.lt⟩, hz.below.size⟩, hbw⟩
    (try simp only [Act.put, List.setIfInBounds_toArray, List.set_cons_zero, List.set_cons_succ])
    refine SeqT.run (v := ?_) rfl rfl (fun _ wz hz => ?_) ?_ ?_; rotate_left; (have hzc := hz.cell; have hzf := hz.frozen; go_simp; first | exact UponS.value (Since.refl _) | exact UponS.skip (Since.refl _)); (exact rfl); (try simp only [Act.put, List.setIfInBounds_toArray, List.set_cons_zero, List.set_cons_succ])
    refine SeqT.tie rfl (by decide) rfl (fun wz hz hd => ?_) (fun v3 _ _ => ?_)
    · clear hd
      go_simp
      exact UponT.value ⟨⟨wz.heap.size, rfl, Blk.new wz 3 _, ⟨Nat.le_refl _, by simp⟩, hz.below.size⟩, (Below.refl _ _).alloc (Nat.le_refl _) _⟩
    (try simp only [Act.put, List.setIfInBounds_toArray, List.set_cons_zero, List.set_cons_succ])
    refine SeqT.run (v := ?_) rfl rfl (fun _ wz hz => ?_) ?_ ?_; rotate_left; (have hzc := hz.cell; have hzf := hz.frozen; go_simp; first | exact UponS.value (Since.refl _) | exact UponS.skip (Since.refl _)); (exact rfl); (try simp only [Act.put, List.setIfInBounds_toArray, List.set_cons_zero, List.set_cons_succ])
    refine SeqT.tie rfl (by decide) rfl (fun wz hz hd => ?_) (fun v5 _ _ => ?_)
    · clear hd
      go_simp
      exact UponT.value ⟨⟨wz.heap.size, rfl, Blk.new wz 3 _, ⟨Nat.le_refl _, by simp⟩, hz.below.size⟩, (Below.refl _ _).alloc (Nat.le_refl _) _⟩
    (try simp only [Act.put, List.setIfInBounds_toArray, List.set_cons_zero, List.set_cons_succ])
    refine SeqT.run (v := ?_) rfl rfl (fun _ wz hz => ?_) ?_ ?_; rotate_left; (have hzc := hz.cell; have hzf := hz.frozen; go_simp; first | exact UponS.value (Since.refl _) | exact UponS.skip (Since.refl _)); (exact rfl); (try simp only [Act.put, List.setIfInBounds_toArray, List.set_cons_zero, List.set_cons_succ])
    refine SeqT.tie rfl (by decide) rfl (fun wz hz hd => ?_) (fun v7 _ _ => ?_)
    · clear hd
      go_simp
      exact UponT.value ⟨⟨wz.heap.size, rfl, Blk.new wz 4 _, ⟨Nat.le_refl _, by simp⟩, hz.below.size⟩, (Below.refl _ _).alloc (Nat.le_refl _) _⟩
    (try simp only [Act.put, List.setIfInBounds_toArray, List.set_cons_zero, List.set_cons_succ])
    refine SeqT.tie rfl (by decide) rfl (fun wz hz hd => ?_) (fun v8 _ _ => ?_)
    · obtain ⟨pp, lv, rfl, k1', l1, i1, j1⟩ := hd.all 1 (by decide) v1 _ _ rfl
      obtain ⟨nx, rfl, k3', i3, j3⟩ := hd.all 3 (by decide) v3 _ _ rfl
      obtain ⟨wr, rfl, k5', i5, j5⟩ := hd.all 5 (by decide) v5 _ _ rfl
      obtain ⟨rt, rfl, k7', i7, j7⟩ := hd.all 7 (by decide) v7 _ _ rfl
      have a1 := hd.apart 1 (by decide) 3 (by decide) _ _ _ _ _ _ (by decide) rfl rfl
      have a2 := hd.apart 1 (by decide) 5 (by decide) _ _ _ _ _ _ (by decide) rfl rfl
      have a3 := hd.apart 1 (by decide) 7 (by decide) _ _ _ _ _ _ (by decide) rfl rfl
      have a4 := hd.apart 3 (by decide) 5 (by decide) _ _ _ _ _ _ (by decide) rfl rfl
      have a5 := hd.apart 3 (by decide) 7 (by decide) _ _ _ _ _ _ (by decide) rfl rfl
      have a6 := hd.apart 5 (by decide) 7 (by decide) _ _ _ _ _ _ (by decide) rfl rfl
      have b1 := hd.le 1 (by decide) _ _ _ rfl
      have b2 := hd.le 3 (by decide) _ _ _ rfl
      have b3 := hd.le 5 (by decide) _ _ _ rfl
      have b4 := hd.le 7 (by decide) _ _ _ rfl
      obtain ⟨i1, i1'⟩ := i1
      obtain ⟨i3, i3'⟩ := i3
      obtain ⟨i5, i5'⟩ := i5
      obtain ⟨i7, i7'⟩ := i7
      have f1 : pp ≠ nx := by clear a2 a3 a4 a5 a6; omega
      have f2 : pp ≠ wr := by clear a1 a3 a4 a5 a6; omega
      have f3 : pp ≠ rt := by clear a1 a2 a4 a5 a6; omega
      have f4 : nx ≠ wr := by clear a1 a2 a3 a5 a6; omega
      have f5 : nx ≠ rt := by clear a1 a2 a3 a4 a6; omega
      have f6 : wr ≠ rt := by clear a1 a2 a3 a4 a5; omega
      have HPT : RParts wz w1.heap.size wz.heap.size N pp nx wr rt lv :=
        ⟨k1', l1.mono fun k hk hq => by
            obtain ⟨q1, q2, q3⟩ := hq
            exact ⟨by omega, hk, q3, by clear a2 a3 a4 a5 a6; omega, by clear a1 a3 a4 a5 a6; omega, by clear a1 a2 a4 a5 a6; omega⟩, k3', k5', k7', ⟨by omega, by omega⟩, ⟨by omega, by omega⟩, ⟨by omega, by omega⟩, ⟨by omega, by omega⟩, ⟨f1, f2, f3, f4, f5, f6⟩, Nat.le_refl _⟩
      clear k1' l1 k3' k5' k7' a1 a2 a3 a4 a5 a6 b1 b2 b3 b4 i1 i3 i5 i7 i1' i3' i5' i7' j1 j3 j5 j7 hd f1 f2 f3 f4 f5 f6
      go_simp
      exact UponT.value ⟨⟨wz.heap.size, pp, nx, wr, rt, lv, rfl, HPT⟩, Since.refl _⟩
    (try simp only [Act.put, List.setIfInBounds_toArray, List.set_cons_zero, List.set_cons_succ])
    refine SeqT.tie rfl (by decide) rfl (fun wz hz hd => ?_) (fun v9 _ _ => ?_)
    · obtain ⟨top, pp, nx, wr, rt, lv, rfl, HPT⟩ := hd.all 8 (by decide) v8 _ _ rfl
      clear hd
      unfold rnV
      go_simp
      refine UponT.value ⟨⟨wz.heap.size, top, pp, nx, wr, rt, lv, rfl, Blk.new wz 97 _, HPT.since ((Below.refl _ _).alloc (Nat.le_refl _) _), HPT.top, hz.below.size⟩, (Below.refl _ _).alloc (Nat.le_refl _) _⟩
    (try simp only [Act.put, List.setIfInBounds_toArray, List.set_cons_zero, List.set_cons_succ])
    intro wz hz hi
    obtain ⟨r, top, pp, nx, wq, rt, lv, rfl, hm, HPT, h5, h6⟩ := hi.all 9 v9 _ _ rfl
    have HB3 := Lib.hid (HB2.out.drew.trans (hz.below.mono HB2.out.size))
    have hb1s := HB2.out.size
    have hdl := hm.lt
    have hptop := HPT.top
    have HNR : Hid (RNRaw wz (fun k => w1.heap.size ≤ k ∧ k < wz.heap.size) r ⟨c, l, b, p, s⟩ (newS (bad.take 0)) 0 [] 0 [] pp nx wq rt lv (.slice none 0 0)) := by
      obtain ⟨p1, p2⟩ := HPT.inP
      obtain ⟨q1, q2⟩ := HPT.inN
      obtain ⟨r1, r2⟩ := HPT.inW
      obtain ⟨t1, t2⟩ := HPT.inR
      obtain ⟨s1, s2, s3, s4, s5, s6⟩ := HPT.apart
      refine ⟨?_, HPT.pl, HPT.left.mono fun k hk hq => ⟨⟨hq.1, hk⟩, by have := hq.2.1; omega, hq.2.2.1, hq.2.2.2.1, hq.2.2.2.2.1, hq.2.2.2.2.2, nofun⟩, fun x hx => by simp at hx, rfl, fun i hi => ?_, ⟨[], World.ownsRow_nil _ _ _ _, fun j e hj => by simp at hj⟩, fun a => ?_, ⟨⟨h6, hdl⟩, ⟨p1, by omega⟩, ⟨q1, by omega⟩, ⟨r1, by omega⟩, ⟨t1, by omega⟩, nofun⟩, ⟨by omega, by omega, by omega, by omega, s1, s2, s3, s4, s5, s6⟩, nofun, fun k hk => hk.2, HK.out, ⟨Nat.le_refl _, Nat.le_refl _⟩⟩
      · unfold refL
        rw [HN.out]
        exact hm
      · rw [HN.out] at hi
        exact ⟨at_rep HPT.bn hi, at_rep HPT.bw hi, at_rep HPT.br hi⟩
      · simp [newS, evSec]
    clear hz hi hm HPT hmk hmb
    go_wp2_with fail
    go_loopw [8] (fun t wr' => ∃ k : Nat, k ≤ bad.length ∧ t = .int .i64 k ∧ Hid (RNRaw wr' (fun k => w1.heap.size ≤ k ∧ k < wz.heap.size) r ⟨c, l, b, p, s⟩ (newS (bad.take k)) 0 [] 0 [] pp nx wq rt lv (.slice none 0 0)) ∧ Hid (∀ j x, j < k → bad[j]? = some x → 0 ≤ x ∧ x < N) ∧ Hid (Below w.heap.size w wr')) (fun t _ => ((bad.length : Int) - intOf t).toNat)
    case atStart => exact ⟨0, Nat.zero_le _, rfl, HNR.out, fun j x h => by omega, HB3.out⟩
    case round =>
      obtain ⟨k, hk, rfl, HNk, HTk, HBk⟩ := hrel
      have hr := HNk.out
      have n9 : wr.cell? ⟨r, 9, none⟩ = some (.slice (some ⟨rt, 0, none⟩) N N) := by have := hr.blk.cell 9; unfold refL at this; rw [HN.out] at this; exact this
      have nlt := hr.blk.lt
      by_cases hlt : k < bad.length
      · obtain ⟨x, hx⟩ : ∃ x, bad[k]? = some x := ⟨_, List.getElem?_eq_getElem hlt⟩
        have hsl := (HS.out.below HBk.out)
        obtain ⟨a', cap', he, q1, q2, q3⟩ := hsl.ints
        injection he with e1 e2 e3
        subst e1
        obtain ⟨sb, off, rfl, _, hsb, hcs⟩ := q3 (by omega)
        have hck := hcs k hlt
        rw [List.getD_eq_getElem?_getD, hx] at hck
        simp only [Option.getD_some] at hck
        have HX := Lib.hid hx
        have hk0 : (0 : Int) ≤ k := by omega
        have hk1 : (k : Int) < bad.length := by omega
        clear hsl hcs e2 e3 q1 q2 q3 hx
        by_cases hx0 : x < 0
        · have HNO : Hid (badOk ⟨c, l, b, p, s⟩ bad = false) := by
            show _ = _
            rw [HBO.out, HK.out, Bool.true_and, decide_eq_false_iff_not]
            intro h
            have := (h x (List.mem_of_getElem? HX.out)).1
            omega
          clear hr
          go_wp2_with fail
          go_ret2
          refine ⟨HBk.out, ?_⟩
          rw [if_neg (by rw [HNO.out]; decide)]; rfl
        by_cases hx9 : (N : Int) ≤ x
        · have HNO : Hid (badOk ⟨c, l, b, p, s⟩ bad = false) := by
            show _ = _
            rw [HBO.out, HK.out, Bool.true_and, decide_eq_false_iff_not]
            intro h
            have := (h x (List.mem_of_getElem? HX.out)).2
            omega
          clear hr
          go_wp2_with fail
          go_ret2
          refine ⟨HBk.out, ?_⟩
          rw [if_neg (by rw [HNO.out]; decide)]; rfl
        obtain ⟨i, rfl⟩ : ∃ i : Nat, x = i := ⟨x.toNat, by omega⟩
        have hiN : i < Geo.nb ⟨c, l, b, p, s⟩ := by rw [HN.out]; omega
        have HIN := Lib.hid hiN
        have HT2 : Hid (∀ j x, j < k + 1 → bad[j]? = some x → 0 ≤ x ∧ x < N) := fun j y hj hy => by
          by_cases hjk : j = k
          · subst hjk
            rw [HX.out] at hy
            cases hy
            exact ⟨by omega, by omega⟩
          · exact HTk.out j y (by omega) hy
        have hi0 : (0 : Int) ≤ i := by omega
        have hi1 : (i : Int) < N := by omega
        clear hr hiN
        go_wp2_with fail
        refine wp_region_b 8 (by kernel_rfl) (by kernel_rfl) ?_
        simp only [List.take_succ_cons, List.take_zero, List.drop_succ_cons, List.drop_zero]
        repeat (first
          | (refine SeqC.run (v := ?_) ?_ (fun wz hz => ?_) ?_; rotate_left; (· rfl); (· have hzc := hz.cell; have hzf := hz.frozen; go_simp; first | exact UponS.value hz | exact UponS.skip hz | (refine UponS.call ?_; fail)); (try simp only [Act.put, List.setIfInBounds_toArray, List.set_cons_zero, List.set_cons_succ]))
          | (refine SeqC.skip ?_ ?_; (· rfl); (try simp only [Act.put, List.setIfInBounds_toArray, List.set_cons_zero, List.set_cons_succ])))
        refine fun wy hz => ?_
        have hbz : Below wr.heap.size wr wy := (Below.refl _ _).drew.trans hz.below
        have hr := HNk.out.below hbz
        have n9 : wy.cell? ⟨r, 9, none⟩ = some (.slice (some ⟨rt, 0, none⟩) N N) := by have := hr.blk.cell 9; unfold refL at this; rw [HN.out] at this; exact this
        have nlty := hr.blk.lt
        obtain ⟨_, _, hx2⟩ := hr.nxs i HIN.out
        obtain ⟨hx2, hy2⟩ := hx2
        have hbl := World.block_lt_of_cell? wy _ hx2
        have hset := hr.setRet HIN.out true
        rw [newS_take_step HX.out rfl] at hset
        have HN2 : Hid (RNRaw (wy.setCell ⟨rt, i, none⟩ (.bool true)) (fun k => w1.heap.size ≤ k ∧ k < wz.heap.size) r ⟨c, l, b, p, s⟩ (newS (bad.take (k + 1))) 0 [] 0 [] pp nx wq rt lv (.slice none 0 0)) := hset
        have HB2' : Hid (Below w.heap.size w (wy.setCell ⟨rt, i, none⟩ (.bool true))) := Lib.hid ((HBk.out.trans (hbz.mono HBk.out.size)).setCell (p := ⟨rt, i, none⟩) (by have := hr.mem.2.2.2.2.1.1; show w.heap.size ≤ rt; omega) (.bool true))
        clear hset hr hz hbz
        go_wp2_with fail
        go_roundw
        case rel => exact ⟨k + 1, by omega, by go_num, HN2.out, HT2.out, HB2'.out⟩
        case measure => simp [intOf]; omega
      · obtain rfl : bad.length = k := by omega
        have HYES : Hid (badOk ⟨c, l, b, p, s⟩ bad = true) := by
          show _ = _
          rw [HBO.out, HK.out, Bool.true_and, decide_eq_true_eq]
          intro x hx
          obtain ⟨j, hj⟩ := List.getElem?_of_mem hx
          exact HTk.out j x (List.getElem?_eq_some_iff.1 hj).1 hj
        have HFIN : Hid (RNAt wr (fun k => w1.heap.size ≤ k ∧ k < wz.heap.size) r ⟨c, l, b, p, s⟩ (newS bad) 0) := by
          have := HNk.out
          rw [List.take_length] at this
          exact ⟨_, _, _, _, _, _, _, _, _, this⟩
        clear hr
        go_wp2_with fail
        go_ret2
        refine ⟨HBk.out, ?_⟩
        rw [if_pos HYES.out]
        exact ⟨r, _, rfl, HFIN.out, fun k hk => by have := hk.1; omega⟩
  · have hk1 : g.okB = false := by simpa using hok
    have HK1 := Lib.hid hk1
    have HNO : Hid (badOk g bad = false) := by show _ = _; rw [HBO.out, hk1]; rfl
    have HU : Hid (∀ wy, Calls Try.prog 63 #[g.v] wy fun e w' => e = .returned (.int .i64 0) ∧ Below wy.heap.size wy w') := by
      intro wy
      have := ref03Units_any g wy
      unfold Geo.unitsI at this
      rwa [if_neg hok] at this
    clear hk1 hok hg hs h3
    obtain ⟨c, l, b, p, s⟩ := g
    have HG := Lib.hid (Blk.new w 23 [.int .i64 c, .int .i64 l, .int .i64 b, .int .i64 p, .int .i64 s])
    have HB0 : Hid (Below w.heap.size w (w.alloc (.cells #[.int .i64 c, .int .i64 l, .int .i64 b, .int .i64 p, .int .i64 s] 23))) := Lib.hid ((Below.refl w.heap.size w).alloc (Nat.le_refl _) _)
    unfold Geo.v at HU ⊢
    go_enter Try.func25, Try.ntmps25
    go_wp2_with fail
    refine wp_region_b 5 (by kernel_rfl) (by kernel_rfl) ?_
    simp only [List.take_succ_cons, List.take_zero, List.drop_succ_cons, List.drop_zero]
    repeat (first
      | (refine SeqC.run (v := ?_) ?_ (fun wz hz => ?_) ?_; rotate_left; (· rfl); (· have hzc := hz.cell; have hzf := hz.frozen; go_simp; first | exact UponS.value hz | exact UponS.skip hz | (refine UponS.call ?_; (go_at_call 63; refine (HU.out _).mono ?_; rintro e wy ⟨rfl, hb⟩; refine ⟨?_, hz.step hb⟩; rfl))); (try simp only [Act.put, List.setIfInBounds_toArray, List.set_cons_zero, List.set_cons_succ]))
      | (refine SeqC.skip ?_ ?_; (· rfl); (try simp only [Act.put, List.setIfInBounds_toArray, List.set_cons_zero, List.set_cons_succ])))
    refine fun wz hz => ?_
    have hbz : Below (w.alloc (.cells #[.int .i64 c, .int .i64 l, .int .i64 b, .int .i64 p, .int .i64 s] 23)).heap.size (w.alloc (.cells #[.int .i64 c, .int .i64 l, .int .i64 b, .int .i64 p, .int .i64 s] 23)) wz := (Below.refl _ _).drew.trans hz.below
    have hk := HG.out.below hbz
    have HB1 := Lib.hid (HB0.out.trans (hbz.mono (by simp)))
    have k0 : wz.cell? ⟨w.heap.size, 0, none⟩ = some (.int .i64 c) := hk.cell 0; have k1 : wz.cell? ⟨w.heap.size, 1, none⟩ = some (.int .i64 l) := hk.cell 1; have k2 : wz.cell? ⟨w.heap.size, 2, none⟩ = some (.int .i64 b) := hk.cell 2; have k3 : wz.cell? ⟨w.heap.size, 3, none⟩ = some (.int .i64 p) := hk.cell 3; have k4 : wz.cell? ⟨w.heap.size, 4, none⟩ = some (.int .i64 s) := hk.cell 4
    have hltk := hk.lt
    clear hk hbz hz
    (go_wp2_with fail); refine (ref03Right_any ⟨c, l, b, p, s⟩ _).mono ?_
    rintro e w1 ⟨rfl, hb⟩
    rw [HK1.out]
    have HB2 := Lib.hid (HB1.out.trans (hb.mono HB1.out.size))
    clear hb
    go_wp2_with fail
    go_ret2
    refine ⟨HB2.out, ?_⟩
    rw [if_neg (by rw [HNO.out]; decide)]; rfl

end Go.Proofs.Ytlkapaecaeldpaa
