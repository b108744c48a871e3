/-
  Package nand: New.
-/
import Derived.Test.YtlkapaecaeldpaaNandG
set_option linter.unusedVariables false
set_option linter.unusedSimpArgs false
set_option maxRecDepth 16384
namespace Go.Proofs.Ytlkapaecaeldpaa
open Go.RowKit

/-- a device whose blocks are all erased -/
def newS (bad : List Int) : NSt := ⟨false, [], 0, fun _ => 0, fun _ => 0, fun i => decide ((i : Int) ∈ bad), 0, fun _ => none⟩
def badOk (g : Geo) (bad : List Int) : Bool := g.okB && decide (∀ x ∈ bad, 0 ≤ x ∧ x < (g.nb : Nat))

theorem info_block : (Try.prog.info? 126).map (fun i => (i.zero, i.size, i.bytes)) = some (some (.agg #[.int .i64 0, .int .i64 0, .bool false]), 3, 24) := by kernel_rfl

def blkZ : Array Value := #[.int .i64 0, .int .i64 0, .bool false]
theorem make_blocks (N : Nat) (hN : N ≤ 1000) (w : World) : (Instr.makeSlice 59 (.int .i64 (N : Int)) (.int .i64 (N : Int))).run Try.prog w = .ok (.slice (some ⟨w.heap.size, 0, none⟩) N N) (w.alloc (.cells (madeCells blkZ (N * 3)) 126)) := by
  obtain ⟨i, hi, hzz⟩ := Option.map_eq_some_iff.1 info_block
  simp only [Prod.mk.injEq] at hzz
  obtain ⟨hz, hs, hb⟩ := hzz
  have hr := run_make (P := Try.prog) w 59 126 i _ Try.underlying59 hi hz .i64 .i64 N N (by omega) (Int.le_refl _) (by rw [hb]; omega) (by omega)
  simp only [Int.toNat_natCast, hs] at hr
  exact hr
theorem made_cells {w : World} {b N : Nat} {t : TypeId} (h : w.heap[b]? = some (.cells (madeCells blkZ (N * 3)) t (0, 0))) {i : Nat} (hi : i < N) : At w b (i * 3) (.int .i64 0) ∧ At w b (i * 3 + 1) (.int .i64 0) ∧ At w b (i * 3 + 2) (.bool false) := by
  have hc : ∀ o, o < N * 3 → w.cell? ⟨b, o, none⟩ = some (blkZ[o % 3]!) ∧ w.frozen? ⟨b, o, none⟩ = false := fun o ho => by
    refine ⟨?_, by simp [World.frozen?, h]⟩
    simp only [World.cell?, h]
    simp [madeCells, blkZ, ho]
  have e0 : i * 3 % 3 = 0 := by omega
  have e1 : (i * 3 + 1) % 3 = 1 := by omega
  have e2 : (i * 3 + 2) % 3 = 2 := by omega
  have h0 := hc (i * 3) (by omega)
  have h1 := hc (i * 3 + 1) (by omega)
  have h2 := hc (i * 3 + 2) (by omega)
  rw [e0] at h0
  rw [e1] at h1
  rw [e2] at h2
  exact ⟨h0, h1, h2⟩

/-- the parts of a new device -/
structure NParts (w : World) (base top A N p vb mb : Nat) (lv : Value) : Prop where
  pl : Blk w p 163 [lv, .int .i64 0]
  left : SlQ w (fun k => base ≤ k ∧ k < top ∧ k ≠ p ∧ k ≠ vb ∧ k ≠ mb) lv (bv [])
  row : w.heap[vb]? = some (.cells (madeCells blkZ (N * 3)) 126 (0, 0))
  map : MapIs Try.prog w 3 mb A (fun _ => none)
  inP : base ≤ p ∧ p < top
  inB : base ≤ vb ∧ vb < top
  inM : base ≤ mb ∧ mb < top
  apart : p ≠ vb ∧ p ≠ mb ∧ vb ≠ mb
  top : top ≤ w.heap.size
theorem NParts.since {w w' : World} {base top A N p vb mb : Nat} {lv : Value} (h : NParts w base top A N p vb mb lv) (hs : Below w.heap.size w w') : NParts w' base top A N p vb mb lv := by
  have h1 := h.inB
  have h2 := h.inM
  have h3 := h.top
  exact ⟨h.pl.below hs, h.left.keep hs.size fun k hk _ => hs.block k hk, (hs.block vb (by omega)).trans h.row, h.map.block (hs.block mb (by omega)), h.inP, h.inB, h.inM, h.apart, Nat.le_trans h.top hs.size⟩

def NewNJ (g : Geo) (base A N : Nat) (i : Nat) (v : Value) (lo hi : Nat) (w : World) : Prop :=
  match i with
  | 1 => ∃ p lv, v = .pointer (some ⟨p, 0, none⟩) ∧ Blk w p 163 [lv, .int .i64 0] ∧ SlQ w (fun k => lo ≤ k ∧ k < hi ∧ k ≠ p) lv (bv []) ∧ (lo ≤ p ∧ p < hi) ∧ base ≤ lo
  | 7 => ∃ vb, v = .slice (some ⟨vb, 0, none⟩) N N ∧ w.heap[vb]? = some (.cells (madeCells blkZ (N * 3)) 126 (0, 0)) ∧ (lo ≤ vb ∧ vb < hi) ∧ base ≤ lo
  | 8 => ∃ mb, v = .map (some mb) ∧ MapIs Try.prog w 3 mb A (fun _ => none) ∧ (lo ≤ mb ∧ mb < hi) ∧ base ≤ lo
  | 9 => ∃ top p vb mb lv, v = .agg #[.bool false, .int .i64 g.chans, .int .i64 g.luns, .int .i64 g.blocks, .int .i64 g.pages, .int .i64 g.sectors, .pointer (some ⟨p, 0, none⟩), .slice (some ⟨vb, 0, none⟩) N N, .map (some mb), .int .i64 0] ∧ NParts w base top A N p vb mb lv
  | 10 => ∃ d top p vb mb lv, v = .pointer (some ⟨d, 0, none⟩) ∧ Blk w d 62 [.bool false, .int .i64 g.chans, .int .i64 g.luns, .int .i64 g.blocks, .int .i64 g.pages, .int .i64 g.sectors, .pointer (some ⟨p, 0, none⟩), .slice (some ⟨vb, 0, none⟩) N N, .map (some mb), .int .i64 0] ∧ NParts w base top A N p vb mb lv ∧ top ≤ d ∧ base ≤ d
  | _ => True
theorem NewNJ.keep {g : Geo} {base A N : Nat} (i : Nat) (v : Value) (lo hi : Nat) (w w' : World) (h : NewNJ g base A N i v lo hi w) (hs : Since w w') : NewNJ g base A N i v lo hi w' := by
  unfold NewNJ at *
  split at h
  · obtain ⟨p, lv, h1, h2, h3, h4, h5⟩ := h; exact ⟨p, lv, h1, h2.below hs, h3.keep hs.size fun k hk _ => hs.block k hk, h4, h5⟩
  · obtain ⟨vb, h1, h2, h3⟩ := h; exact ⟨vb, h1, (hs.block vb (Array.getElem?_eq_some_iff.1 h2).1).trans h2, h3⟩
  · obtain ⟨mb, h1, h2, h3⟩ := h; exact ⟨mb, h1, h2.block (hs.block mb h2.lt), h3⟩
  · obtain ⟨top, p, vb, mb, lv, h1, h2⟩ := h; exact ⟨top, p, vb, mb, lv, h1, h2.since hs⟩
  · obtain ⟨d, top, p, vb, mb, lv, h1, h2, h3, h4⟩ := h; exact ⟨d, top, p, vb, mb, lv, h1, h2.below hs, h3.since hs, h4⟩
  · trivial

/-- how New ends -/
def NewNPost (w : World) (g : Geo) (bad : List Int) (e : Ending) (w' : World) : Prop :=
  Below w.heap.size w w' ∧
    (if badOk g bad = true then ∃ d F, e = .returned (.tuple #[.pointer (some ⟨d, 0, none⟩), .int .i64 0]) ∧ NandAt w' F d g (newS bad) ∧ ∀ k, F k → w.heap.size ≤ k
      else e = .returned (.tuple #[.pointer none, .int .i64 1]))

theorem newS_take_step {bad : List Int} {k i : Nat} {x : Int} (hx : bad[k]? = some x) (hi : x = i) : (fun j => if j = i then true else (newS (bad.take k)).ret j) = (newS (bad.take (k + 1))).ret := by
  funext j
  show (if j = i then true else decide ((j : Int) ∈ bad.take k)) = decide ((j : Int) ∈ bad.take (k + 1))
  rw [List.take_add_one, hx, Option.toList_some]
  by_cases hj : j = i
  · rw [if_pos hj]
    symm
    rw [decide_eq_true_eq, List.mem_append]
    exact .inr (by rw [List.mem_singleton]; omega)
  · rw [if_neg hj]
    rw [decide_eq_decide, List.mem_append, List.mem_singleton]
    exact ⟨fun h => .inl h, fun h => h.elim id fun h => absurd h (by omega)⟩

set_option maxHeartbeats 4000000 in
theorem nandNew_any (g : Geo) (v : Value) (bad : List Int) (w : World) (hg : g.Wf) (hs : Sl w 0 v (iv bad)) (hl : bad.length ≤ 1000000) :
    Calls Try.prog 21 #[g.v, v] w fun e w' => NewNPost w g bad e w' := by
  have HW := Lib.hid hg
  have HS := Lib.hid hs
  obtain ⟨a, cap, rfl, h1, h2, h3⟩ := hs.ints
  have HBO : Hid (badOk g bad = (g.okB && decide (∀ x ∈ bad, 0 ≤ x ∧ x < (g.nb : Nat)))) := Lib.hid rfl
  by_cases hok : g.okB = true
  · have HK := Lib.hid hok
    obtain ⟨hnb1, hnb2, hnb3⟩ := Geo.nb_le hok
    obtain ⟨N, hN⟩ : ∃ N, g.nb = N := ⟨_, rfl⟩
    rw [hN] at HBO hnb1 hnb2 hnb3
    have HN := Lib.hid hN
    have hU : Hid (∀ wy, Calls Try.prog 74 #[g.v] wy fun e w' => e = .returned (.int .i64 (g.chans * g.luns)) ∧ Below wy.heap.size wy w') := fun wy => geomUnits_ok g hok wy
    obtain ⟨AL, hAL⟩ : ∃ A : Nat, g.all.toNat = A := ⟨_, rfl⟩
    have HAL := Lib.hid hAL
    have hmk := make_blocks N (by omega)
    have hmm := @run_makeMap Try.prog
    obtain ⟨c, l, b, p, s⟩ := g
    simp only at hnb2 hU
    obtain ⟨U, hU2⟩ : ∃ U, c * l = U := ⟨_, rfl⟩
    rw [hU2] at hU hnb2
    have hwu : IntKind.i64.wrap (U * b) = (N : Int) := by rw [hnb2]; exact wrap_in _ ⟨by omega, by omega⟩
    have HG := Lib.hid (Blk.new w 23 [.int .i64 c, .int .i64 l, .int .i64 b, .int .i64 p, .int .i64 s])
    unfold Geo.v at hU ⊢
    clear hok hN hAL hnb2 hU2 hs hg h3
    go_enter Try.func21, Try.ntmps21
    (go_wp2_with fail); refine (geomRight_any ⟨c, l, b, p, s⟩ _ HW.out).mono ?_
    rintro e w1 ⟨rfl, hb⟩
    rw [HK.out]
    have hk := HG.out.below hb; have k0 : w1.cell? ⟨w.heap.size, 0, none⟩ = some (.int .i64 c) := hk.cell 0; have k1 : w1.cell? ⟨w.heap.size, 1, none⟩ = some (.int .i64 l) := hk.cell 1; have k2 : w1.cell? ⟨w.heap.size, 2, none⟩ = some (.int .i64 b) := hk.cell 2; have k3 : w1.cell? ⟨w.heap.size, 3, none⟩ = some (.int .i64 p) := hk.cell 3; have k4 : w1.cell? ⟨w.heap.size, 4, none⟩ = some (.int .i64 s) := hk.cell 4; have hltk := hk.lt
    have HG1 := Lib.hid hk
    have HB1 := Lib.hid (((Below.refl w.heap.size w).alloc (Nat.le_refl _) _).trans (hb.mono (by simp)))
    clear hb hk
    go_wp2_with fail
    refine wp_region_t 11 [(1, []), (7, []), (8, []), (9, [1, 7, 8]), (10, [9])] 12 (NewNJ ⟨c, l, b, p, s⟩ w1.heap.size AL N) [?_, undef, ?_, ?_, ?_, ?_, ?_, undef, undef, undef, undef] (by kernel_rfl) (by kernel_rfl) (by kernel_rfl) NewNJ.keep ?_
    rotate_left 6
    simp only [List.take_succ_cons, List.take_zero, List.drop_succ_cons, List.drop_zero]
    refine SeqT.run (v := ?_) rfl rfl (fun _ wz hz => ?_) ?_ ?_; rotate_left; (have hzc := hz.cell; have hzf := hz.frozen; go_simp; first | exact UponS.value (Since.refl _) | exact UponS.skip (Since.refl _)); (exact rfl); (try simp only [Act.put, List.setIfInBounds_toArray, List.set_cons_zero, List.set_cons_succ])
    refine SeqT.tie rfl (by decide) rfl (fun wz hz hd => ?_) (fun v1 _ _ => ?_)
    · clear hd
      go_simp
      refine UponT.call ?_
      go_at_call 73
      refine (planNew_any _ [] wz (show Sl wz 0 (.slice none 0 0) (bv []) from (SlQ.nil wz (fun _ => True)).sl)).mono ?_
      intro e wy hp
      obtain ⟨p', lv', rfl, hpb, hpl, hple, hbw⟩ := hp
      refine ⟨_, rfl, ⟨p', lv', rfl, hpb, hpl.mono fun k hk hq => ⟨hq.1, hk, hq.2⟩, ⟨hple, hpb.lt⟩, hz.below.size⟩, hbw⟩
    (try simp only [Act.put, List.setIfInBounds_toArray, List.set_cons_zero, List.set_cons_succ])
    refine SeqT.run (v := ?_) rfl rfl (fun _ wz hz => ?_) ?_ ?_; rotate_left; (have hzc := hz.cell; have hzf := hz.frozen; go_simp; first | exact UponS.value (Since.refl _) | exact UponS.skip (Since.refl _)); (exact rfl); (try simp only [Act.put, List.setIfInBounds_toArray, List.set_cons_zero, List.set_cons_succ])
    refine SeqT.run (v := ?_) rfl rfl (fun _ wz hz => ?_) ?_ ?_; rotate_left; (have hzc := hz.cell; have hzf := hz.frozen; go_simp; refine UponS.call ?_; go_at_call 74; refine (hU.out _).mono ?_; rintro e wy ⟨rfl, hb⟩; refine ⟨?_, hb⟩; rfl); (exact rfl); (try simp only [Act.put, List.setIfInBounds_toArray, List.set_cons_zero, List.set_cons_succ])
    refine SeqT.run (v := ?_) rfl rfl (fun _ wz hz => ?_) ?_ ?_; rotate_left; (have hzc := hz.cell; have hzf := hz.frozen; go_simp; first | exact UponS.value (Since.refl _) | exact UponS.skip (Since.refl _)); (exact rfl); (try simp only [Act.put, List.setIfInBounds_toArray, List.set_cons_zero, List.set_cons_succ])
    refine SeqT.run (v := ?_) rfl rfl (fun _ wz hz => ?_) ?_ ?_; rotate_left; (have hzc := hz.cell; have hzf := hz.frozen; go_simp; first | exact UponS.value (Since.refl _) | exact UponS.skip (Since.refl _)); (exact rfl); (try simp only [Act.put, List.setIfInBounds_toArray, List.set_cons_zero, List.set_cons_succ])
    refine SeqT.run (v := ?_) rfl rfl (fun _ wz hz => ?_) ?_ ?_; rotate_left; (have hzc := hz.cell; have hzf := hz.frozen; go_simp; first | exact UponS.value (Since.refl _) | exact UponS.skip (Since.refl _)); (exact rfl); (try simp only [Act.put, List.setIfInBounds_toArray, List.set_cons_zero, List.set_cons_succ])
    refine SeqT.tie rfl (by decide) rfl (fun wz hz hd => ?_) (fun v7 _ _ => ?_)
    · clear hd
      go_simp
      exact UponT.value ⟨⟨wz.heap.size, rfl, heap_alloc_new wz _, ⟨Nat.le_refl _, by simp⟩, hz.below.size⟩, (Below.refl _ _).alloc (Nat.le_refl _) _⟩
    (try simp only [Act.put, List.setIfInBounds_toArray, List.set_cons_zero, List.set_cons_succ])
    refine SeqT.tie rfl (by decide) rfl (fun wz hz hd => ?_) (fun v8 _ _ => ?_)
    · clear hd
      go_simp
      exact UponT.value ⟨⟨wz.heap.size, rfl, MapIs.made Try.prog wz 3 AL, ⟨Nat.le_refl _, by simp⟩, hz.below.size⟩, (Below.refl _ _).alloc (Nat.le_refl _) _⟩
    (try simp only [Act.put, List.setIfInBounds_toArray, List.set_cons_zero, List.set_cons_succ])
    refine SeqT.tie rfl (by decide) rfl (fun wz hz hd => ?_) (fun v9 _ _ => ?_)
    · obtain ⟨pp, lv, rfl, k1, l1, i1, j1⟩ := hd.all 1 (by decide) v1 _ _ rfl
      obtain ⟨vb, rfl, k7, i7, j7⟩ := hd.all 7 (by decide) v7 _ _ rfl
      obtain ⟨mb, rfl, k8, i8, j8⟩ := hd.all 8 (by decide) v8 _ _ rfl
      have a1 := hd.apart 1 (by decide) 7 (by decide) _ _ _ _ _ _ (by decide) rfl rfl
      have a2 := hd.apart 1 (by decide) 8 (by decide) _ _ _ _ _ _ (by decide) rfl rfl
      have a3 := hd.apart 7 (by decide) 8 (by decide) _ _ _ _ _ _ (by decide) rfl rfl
      have b1 := hd.le 1 (by decide) _ _ _ rfl
      have b2 := hd.le 7 (by decide) _ _ _ rfl
      have b3 := hd.le 8 (by decide) _ _ _ rfl
      have HPT : NParts wz w1.heap.size wz.heap.size AL N pp vb mb lv :=
        ⟨k1, l1.mono fun k hk hq => ⟨by omega, hk, hq.2.2, by have := hq.1; have := hq.2.1; omega, by have := hq.1; have := hq.2.1; omega⟩, k7, k8, ⟨by omega, by omega⟩, ⟨by omega, by omega⟩, ⟨by omega, by omega⟩, ⟨by omega, by omega, by omega⟩, Nat.le_refl _⟩
      clear k1 l1 k7 k8 a1 a2 a3 b1 b2 b3 i1 i7 i8 j1 j7 j8 hd
      go_simp
      exact UponT.value ⟨⟨wz.heap.size, pp, vb, mb, lv, rfl, HPT⟩, Since.refl _⟩
    (try simp only [Act.put, List.setIfInBounds_toArray, List.set_cons_zero, List.set_cons_succ])
    refine SeqT.tie rfl (by decide) rfl (fun wz hz hd => ?_) (fun v10 _ _ => ?_)
    · obtain ⟨top, pp, vb, mb, lv, rfl, HPT⟩ := hd.all 9 (by decide) v9 _ _ rfl
      clear hd
      go_simp
      refine UponT.value ⟨⟨wz.heap.size, top, pp, vb, mb, lv, rfl, Blk.new wz 62 _, HPT.since ((Below.refl _ _).alloc (Nat.le_refl _) _), HPT.top, hz.below.size⟩, (Below.refl _ _).alloc (Nat.le_refl _) _⟩
    (try simp only [Act.put, List.setIfInBounds_toArray, List.set_cons_zero, List.set_cons_succ])
    intro wz hz hi
    obtain ⟨d, top, pp, vb, mb, lv, rfl, hm, HPT, h5, h6⟩ := hi.all 10 v10 _ _ rfl
    have HB3 := Lib.hid (HB1.out.drew.trans (hz.below.mono HB1.out.size))
    have hb1s := HB1.out.size
    have hdl := hm.lt
    have hptop := HPT.top
    have HNR : Hid (NandRaw wz (fun k => w1.heap.size ≤ k ∧ k < wz.heap.size) d ⟨c, l, b, p, s⟩ (newS (bad.take 0)) pp vb mb lv (fun _ => none)) := by
      obtain ⟨p1, p2⟩ := HPT.inP
      obtain ⟨q1, q2⟩ := HPT.inB
      obtain ⟨r1, r2⟩ := HPT.inM
      obtain ⟨s1, s2, s3⟩ := HPT.apart
      refine ⟨?_, HPT.pl, HPT.left.mono fun k hk hq => ⟨⟨hq.1, hk⟩, by have := hq.2.1; omega, hq.2.2⟩, fun x hx => by simp [newS] at hx, fun i hi => ?_, ?_, fun a => rfl, ⟨⟨h6, hdl⟩, ⟨p1, by omega⟩, ⟨q1, by omega⟩, r1, by omega⟩, ⟨by omega, by omega, by omega, s1, s2, s3⟩, fun k hk => hk.2, HK.out⟩
      · unfold nandL
        rw [HN.out]
        exact hm
      · rw [HN.out] at hi
        exact made_cells HPT.row hi
      · rw [HAL.out]; exact HPT.map
    clear hz hi hm HPT hmk hmm
    go_wp2_with fail
    go_loopw [25] (fun t wr => ∃ k : Nat, k ≤ bad.length ∧ t = .int .i64 k ∧ Hid (NandRaw wr (fun k => w1.heap.size ≤ k ∧ k < wz.heap.size) d ⟨c, l, b, p, s⟩ (newS (bad.take k)) pp vb mb lv (fun _ => none)) ∧ Hid (∀ j x, j < k → bad[j]? = some x → 0 ≤ x ∧ x < N) ∧ Hid (Below w.heap.size w wr)) (fun t _ => ((bad.length : Int) - intOf t).toNat)
    case atStart => exact ⟨0, Nat.zero_le _, rfl, HNR.out, fun j x h => by omega, HB3.out⟩
    case round =>
      obtain ⟨k, hk, rfl, HNk, HTk, HBk⟩ := hrel
      have hr := HNk.out
      have n7 : wr.cell? ⟨d, 7, none⟩ = some (.slice (some ⟨vb, 0, none⟩) N N) := by have := hr.blk.cell 7; unfold nandL at this; rw [HN.out] at this; exact this
      have nlt := hr.blk.lt
      by_cases hlt : k < bad.length
      · obtain ⟨x, hx⟩ : ∃ x, bad[k]? = some x := ⟨_, List.getElem?_eq_getElem hlt⟩
        have hsl := (HS.out.below HBk.out)
        obtain ⟨a', cap', he, q1, q2, q3⟩ := hsl.ints
        injection he with e1 e2 e3
        subst e1
        obtain ⟨sb, off, rfl, _, hsb, hcs⟩ := q3 (by omega)
        have hck := hcs k hlt
        rw [List.getD_eq_getElem?_getD, hx] at hck
        simp only [Option.getD_some] at hck
        have HX := Lib.hid hx
        have hk0 : (0 : Int) ≤ k := by omega
        have hk1 : (k : Int) < bad.length := by omega
        clear hsl hcs e2 e3 q1 q2 q3 hx
        by_cases hx0 : x < 0
        · have HNO : Hid (badOk ⟨c, l, b, p, s⟩ bad = false) := by
            show _ = _
            rw [HBO.out, HK.out, Bool.true_and, decide_eq_false_iff_not]
            intro h
            have := (h x (List.mem_of_getElem? HX.out)).1
            omega
          clear hr
          go_wp2_with fail
          go_ret2
          refine ⟨HBk.out, ?_⟩
          rw [if_neg (by rw [HNO.out]; decide)]; rfl
        by_cases hx9 : (N : Int) ≤ x
        · have HNO : Hid (badOk ⟨c, l, b, p, s⟩ bad = false) := by
            show _ = _
            rw [HBO.out, HK.out, Bool.true_and, decide_eq_false_iff_not]
            intro h
            have := (h x (List.mem_of_getElem? HX.out)).2
            omega
          clear hr
          go_wp2_with fail
          go_ret2
          refine ⟨HBk.out, ?_⟩
          rw [if_neg (by rw [HNO.out]; decide)]; rfl
        obtain ⟨i, rfl⟩ : ∃ i : Nat, x = i := ⟨x.toNat, by omega⟩
        have hiN : i < Geo.nb ⟨c, l, b, p, s⟩ := by rw [HN.out]; omega
        have hset := hr.setRet hiN true
        rw [newS_take_step HX.out rfl] at hset
        have HN2 : Hid (NandRaw (wr.setCell ⟨vb, i * 3 + 2, none⟩ (.bool true)) (fun k => w1.heap.size ≤ k ∧ k < wz.heap.size) d ⟨c, l, b, p, s⟩ (newS (bad.take (k + 1))) pp vb mb lv (fun _ => none)) := hset
        obtain ⟨x0, x1, x2, y0, y1, y2⟩ := hr.cells hiN
        have hbl := World.block_lt_of_cell? wr _ x0
        have HB2 : Hid (Below w.heap.size w (wr.setCell ⟨vb, i * 3 + 2, none⟩ (.bool true))) := Lib.hid (HBk.out.setCell (p := ⟨vb, i * 3 + 2, none⟩) (by have := hr.mem.2.2.1.1; show w.heap.size ≤ vb; omega) (.bool true))
        have HT2 : Hid (∀ j x, j < k + 1 → bad[j]? = some x → 0 ≤ x ∧ x < N) := fun j y hj hy => by
          by_cases hjk : j = k
          · subst hjk
            rw [HX.out] at hy
            cases hy
            exact ⟨by omega, by omega⟩
          · exact HTk.out j y (by omega) hy
        have hi0 : (0 : Int) ≤ i := by omega
        clear hset hr hiN
        go_wp2_with fail
        go_roundw
        case rel => exact ⟨k + 1, by omega, by go_num, HN2.out, HT2.out, HB2.out⟩
        case measure => simp [intOf]; omega
      · obtain rfl : bad.length = k := by omega
        have HYES : Hid (badOk ⟨c, l, b, p, s⟩ bad = true) := by
          show _ = _
          rw [HBO.out, HK.out, Bool.true_and, decide_eq_true_eq]
          intro x hx
          obtain ⟨j, hj⟩ := List.getElem?_of_mem hx
          exact HTk.out j x (List.getElem?_eq_some_iff.1 hj).1 hj
        have HFIN : Hid (NandAt wr (fun k => w1.heap.size ≤ k ∧ k < wz.heap.size) d ⟨c, l, b, p, s⟩ (newS bad)) := by
          have := HNk.out
          rw [List.take_length] at this
          exact ⟨_, _, _, _, _, this⟩
        clear hr
        go_wp2_with fail
        go_ret2
        refine ⟨HBk.out, ?_⟩
        rw [if_pos HYES.out]
        exact ⟨d, _, rfl, HFIN.out, fun k hk => by have := hk.1; omega⟩
  · have hk1 : g.okB = false := by simpa using hok
    have HK1 := Lib.hid hk1
    have HNO : Hid (badOk g bad = false) := by show _ = _; rw [HBO.out, hk1]; rfl
    clear hk1 hok hg hs h3
    obtain ⟨c, l, b, p, s⟩ := g
    unfold Geo.v
    go_enter Try.func21, Try.ntmps21
    (go_wp2_with fail); refine (geomRight_any ⟨c, l, b, p, s⟩ _ HW.out).mono ?_
    rintro e w1 ⟨rfl, hb⟩
    rw [HK1.out]
    have HB1 := Lib.hid (((Below.refl w.heap.size w).alloc (Nat.le_refl _) _).trans (hb.mono (by simp)))
    clear hb
    go_wp2_with fail
    go_ret2
    refine ⟨HB1.out, ?_⟩
    rw [if_neg (by rw [HNO.out]; decide)]; rfl

end Go.Proofs.Ytlkapaecaeldpaa
