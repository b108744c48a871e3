/-
  The walks of the laws over package nand: NandApart.
-/
import Derived.Test.YtlkapaecaeldpaaLaw08l
set_option linter.unusedVariables false
set_option linter.unusedSimpArgs false
set_option maxRecDepth 16384
namespace Go.Proofs.Ytlkapaecaeldpaa
open Go.RowKit

def Geo.littleB (g : Geo) : Bool := decide (g.blocks ≤ 8 ∧ g.pages ≤ 4)
set_option maxHeartbeats 1000000 in
theorem little_any (g : Geo) (w : World) : Calls Try.prog 51 #[g.v] w fun e w' => e = .returned (.bool g.littleB) ∧ Below w.heap.size w w' := by
  obtain ⟨c, l, b, p, s⟩ := g
  have HG := Lib.hid (Blk.new w 23 [.int .i64 c, .int .i64 l, .int .i64 b, .int .i64 p, .int .i64 s])
  have HB0 : Hid (Below w.heap.size w (w.alloc (.cells #[.int .i64 c, .int .i64 l, .int .i64 b, .int .i64 p, .int .i64 s] 23))) := Lib.hid ((Below.refl w.heap.size w).alloc (Nat.le_refl _) _)
  have HL : Hid (Geo.littleB ⟨c, l, b, p, s⟩ = decide (b ≤ 8 ∧ p ≤ 4)) := Lib.hid rfl
  unfold Geo.v
  go_enter Try.func51, Try.ntmps51
  rw [HL.out]
  by_cases hb : b ≤ 8
  · by_cases hp : p ≤ 4
    · rw [decide_eq_true (show b ≤ 8 ∧ p ≤ 4 from ⟨hb, hp⟩)]
      go_wp2_with fail
      go_ret
      exact ⟨rfl, HB0.out⟩
    · rw [decide_eq_false (show ¬ (b ≤ 8 ∧ p ≤ 4) from fun h => hp h.2)]
      go_wp2_with fail
      go_ret
      exact ⟨rfl, HB0.out⟩
  · rw [decide_eq_false (show ¬ (b ≤ 8 ∧ p ≤ 4) from fun h => hb h.1)]
    go_wp2_with fail
    go_ret
    exact ⟨rfl, HB0.out⟩

/-- what is known within the making of sectors -/
def ApJ (base : Nat) (D O : List (List Int)) (i : Nat) (v : Value) (lo hi : Nat) (w : World) : Prop :=
  match i with
  | 6 => ∃ vd vo, v = .tuple #[vd, vo] ∧ Sls w (fun k => base ≤ k) vd D ∧ Sls w (fun k => base ≤ k) vo O
  | 7 => ∃ vd vo, v = .tuple #[vd, vo] ∧ Sls w (fun k => base ≤ k) vd D ∧ Sls w (fun k => base ≤ k) vo O
  | 8 => Sls w (fun k => base ≤ k) v D
  | 9 => Sls w (fun k => base ≤ k) v O
  | 10 => Sls w (fun k => base ≤ k) v D
  | _ => True
theorem ApJ.keep {base : Nat} {D O : List (List Int)} (i : Nat) (v : Value) (lo hi : Nat) (w w' : World) (h : ApJ base D O i v lo hi w) (hs : Since w w') : ApJ base D O i v lo hi w' := by
  unfold ApJ at *
  split at h
  · obtain ⟨a, b, h1, h2, h3⟩ := h; exact ⟨a, b, h1, h2.below hs, h3.below hs⟩
  · obtain ⟨a, b, h1, h2, h3⟩ := h; exact ⟨a, b, h1, h2.below hs, h3.below hs⟩
  · exact h.below hs
  · exact h.below hs
  · exact h.below hs
  · trivial

set_option maxHeartbeats 4000000 in
theorem nandApartWalk (g : Geo) (a1 : Option Addr) (len1 cap1 : Nat) (a2 : Option Addr) (len2 cap2 : Nat) (w : World) (hg : g.Wf) (hops : IsOps8 w a1 len1 cap1) (hmore : IsOps8 w a2 len2 cap2) :
    Calls Try.prog 10 #[g.v, .slice a1 len1 cap1, .slice a2 len2 cap2] w fun e w' => e = .returned (.bool true) ∧ Below w.heap.size w w' := by
  obtain ⟨hll2, hls⟩ := hmore
  have HM := Lib.hid hls
  clear hls
  have HW := Lib.hid hg
  have HL := Lib.hid hops
  clear hg hops
  obtain ⟨c, l, b, p, s⟩ := g
  have HG := Lib.hid (Blk.new w 23 [.int .i64 c, .int .i64 l, .int .i64 b, .int .i64 p, .int .i64 s])
  unfold Geo.v
  go_enter Try.func10, Try.ntmps10
  (go_wp2_with fail); refine (awake08_any _).mono ?_
  rintro e w1 ⟨rfl, hb⟩
  have hk := HG.out.below hb; have k0 : w1.cell? ⟨w.heap.size, 0, none⟩ = some (.int .i64 c) := hk.cell 0; have k1 : w1.cell? ⟨w.heap.size, 1, none⟩ = some (.int .i64 l) := hk.cell 1; have k2 : w1.cell? ⟨w.heap.size, 2, none⟩ = some (.int .i64 b) := hk.cell 2; have k3 : w1.cell? ⟨w.heap.size, 3, none⟩ = some (.int .i64 p) := hk.cell 3; have k4 : w1.cell? ⟨w.heap.size, 4, none⟩ = some (.int .i64 s) := hk.cell 4; have hltk := hk.lt
  have HG0 := Lib.hid hk
  have HB0 := Lib.hid (((Below.refl w.heap.size w).alloc (Nat.le_refl _) _).trans (hb.mono (by simp)))
  clear hb hk HG
  (go_wp2_with fail); refine (little_any ⟨c, l, b, p, s⟩ _).mono ?_
  rintro e w1' ⟨rfl, hb⟩
  have HG1 := Lib.hid (HG0.out.below hb)
  have HB1 := Lib.hid (HB0.out.trans (hb.mono HB0.out.size))
  obtain ⟨LB, hLB⟩ : ∃ x, Geo.littleB ⟨c, l, b, p, s⟩ = x := ⟨_, rfl⟩
  rw [hLB]
  have hs1 := hb.size
  clear hb hLB k0 k1 k2 k3 k4 HG0
  have hlt1 := Nat.lt_of_lt_of_le hltk hs1
  clear hltk hs1
  cases LB with
  | false =>
    go_wp2_with fail
    go_ret
    exact ⟨rfl, HB1.out⟩
  | true =>
    have hkk := HG1.out
    have k0 : w1'.cell? ⟨w.heap.size, 0, none⟩ = some (.int .i64 c) := hkk.cell 0; have k1 : w1'.cell? ⟨w.heap.size, 1, none⟩ = some (.int .i64 l) := hkk.cell 1; have k2 : w1'.cell? ⟨w.heap.size, 2, none⟩ = some (.int .i64 b) := hkk.cell 2; have k3 : w1'.cell? ⟨w.heap.size, 3, none⟩ = some (.int .i64 p) := hkk.cell 3; have k4 : w1'.cell? ⟨w.heap.size, 4, none⟩ = some (.int .i64 s) := hkk.cell 4
    have hltk := hkk.lt
    clear hkk hlt1
    have HG := Lib.hid HG1.out
    (go_wp2_with fail); refine (begun_any ⟨c, l, b, p, s⟩ a1 len1 cap1 w _ HW.out HL.out HB1.out).mono ?_
    intro e w2 hp
    by_cases hok : (⟨c, l, b, p, s⟩ : Geo).okB = true
    case neg =>
      have hok : (⟨c, l, b, p, s⟩ : Geo).okB = false := by simpa using hok
      have HOK := Lib.hid hok
      obtain ⟨hb, rfl⟩ := begun_no hp hok
      have HG2 := Lib.hid (HG1.out.below hb)
      have HB2 := Lib.hid (HB1.out.trans (hb.mono HB1.out.size))
      clear hp hb hok HG HG1
      clear k0 k1 k2 k3 k4 hltk
      have hk := HG2.out
      have k0 : w2.cell? ⟨w.heap.size, 0, none⟩ = some (.int .i64 c) := hk.cell 0; have k1 : w2.cell? ⟨w.heap.size, 1, none⟩ = some (.int .i64 l) := hk.cell 1; have k2 : w2.cell? ⟨w.heap.size, 2, none⟩ = some (.int .i64 b) := hk.cell 2; have k3 : w2.cell? ⟨w.heap.size, 3, none⟩ = some (.int .i64 p) := hk.cell 3; have k4 : w2.cell? ⟨w.heap.size, 4, none⟩ = some (.int .i64 s) := hk.cell 4
      have hltk := hk.lt
      clear hk
      (go_wp2_with fail); refine (ref03Right_any ⟨c, l, b, p, s⟩ _).mono ?_
      rintro e w3 ⟨rfl, hb⟩
      rw [HOK.out]
      have HB3 := Lib.hid (HB2.out.trans (hb.mono HB2.out.size))
      clear hb
      clear k0 k1 k2 k3 k4 hltk
      go_wp2_with fail
      go_ret
      exact ⟨rfl, HB3.out⟩
    obtain ⟨hb, d, F2, S, rfl, hn, hI, hoff, hpl, hF⟩ := begun_is hp hok
    have HOK := Lib.hid hok
    have HN2 := Lib.hid hn
    have HI := Lib.hid hI
    have HOFF := Lib.hid hoff
    have HPL := Lib.hid hpl
    have HF2 : Hid (∀ k, F2 k → w.heap.size < k) := fun k hk => by have := hF k hk; omega
    have HG2 := Lib.hid (HG1.out.below hb)
    have HB2 := Lib.hid (HB1.out.trans (hb.mono HB1.out.size))
    have HFX := Lib.hid (findIx_00 hok)
    clear hp hb hn hI hoff hpl hF hok HG HG1
    clear k0 k1 k2 k3 k4 hltk
    have hk := HG2.out
    have k0 : w2.cell? ⟨w.heap.size, 0, none⟩ = some (.int .i64 c) := hk.cell 0; have k1 : w2.cell? ⟨w.heap.size, 1, none⟩ = some (.int .i64 l) := hk.cell 1; have k2 : w2.cell? ⟨w.heap.size, 2, none⟩ = some (.int .i64 b) := hk.cell 2; have k3 : w2.cell? ⟨w.heap.size, 3, none⟩ = some (.int .i64 p) := hk.cell 3; have k4 : w2.cell? ⟨w.heap.size, 4, none⟩ = some (.int .i64 s) := hk.cell 4
    have hltk := hk.lt
    clear hk
    (go_wp2_with fail); refine (others_any HN2.out HI.out).mono ?_
    rintro e w3 ⟨rfl, hb⟩
    have HN3 := Lib.hid (HN2.out.below hb)
    have HF3 := Lib.hid HF2.out
    have HG3 := Lib.hid (HG2.out.below hb)
    have HB3 := Lib.hid (HB2.out.trans (hb.mono HB2.out.size))
    clear hb
    have HBY0 : Hid (Beyond ⟨c, l, b, p, s⟩ S S) := Beyond.refl HI.out HOFF.out HPL.out
    have hall : 0 ≤ (Geo.all ⟨c, l, b, p, s⟩) := by
      have hgo := Geo.ok_of HOK.out
      obtain ⟨m1, m2, m3, m4, m5', m6, m7, m8, m9, m10⟩ := geo_mul hgo.c.1 hgo.c.2 hgo.l.1 hgo.l.2 hgo.b.1 hgo.b.2 hgo.p.1 hgo.p.2 hgo.s.1 hgo.s.2
      exact Int.le_trans (by decide) m7
    have HSAME : Hid (∀ T, Beyond ⟨c, l, b, p, s⟩ S T → strOfNums (othersL ⟨c, l, b, p, s⟩ T (Geo.all ⟨c, l, b, p, s⟩).toNat) = strOfNums (othersL ⟨c, l, b, p, s⟩ S (Geo.all ⟨c, l, b, p, s⟩).toNat)) := fun T hT => by
      rw [hT.all HOK.out HOFF.out _ (by omega)]
    clear hall
    generalize strOfNums (othersL ⟨c, l, b, p, s⟩ S (Geo.all ⟨c, l, b, p, s⟩).toNat) = STR at HSAME ⊢
    clear k0 k1 k2 k3 k4 hltk
    go_wp2_with fail
    go_loopw [12] (fun t wr => ∃ (k : Nat) (T : NSt) (F : Nat → Prop), k ≤ len2 ∧ k ≤ 20 ∧ t = .int .i64 k ∧ Hid (NandAt wr F d ⟨c, l, b, p, s⟩ T) ∧ Hid (Beyond ⟨c, l, b, p, s⟩ S T) ∧ Hid (∀ j, F j → w.heap.size < j) ∧ Hid (Blk wr w.heap.size 23 [.int .i64 c, .int .i64 l, .int .i64 b, .int .i64 p, .int .i64 s]) ∧ Hid (Below w.heap.size w wr)) (fun t _ => ((len2 : Int) - intOf t).toNat)
    case atStart => exact ⟨0, S, F2, by omega, by omega, rfl, HN3.out, HBY0.out, HF3.out, HG3.out, HB3.out⟩
    case round =>
      obtain ⟨k, T, F4, hkl, hk40, rfl, HN4, HBY4, HF4, HG4, HB4⟩ := hrel
      clear HN2 HN3 HG2 HG3 HB2 HB3 HF2 HF3
      have hkk := HG4.out
      have k0 : wr.cell? ⟨w.heap.size, 0, none⟩ = some (.int .i64 c) := hkk.cell 0; have k1 : wr.cell? ⟨w.heap.size, 1, none⟩ = some (.int .i64 l) := hkk.cell 1; have k2 : wr.cell? ⟨w.heap.size, 2, none⟩ = some (.int .i64 b) := hkk.cell 2; have k3 : wr.cell? ⟨w.heap.size, 3, none⟩ = some (.int .i64 p) := hkk.cell 3; have k4 : wr.cell? ⟨w.heap.size, 4, none⟩ = some (.int .i64 s) := hkk.cell 4
      have hltk := hkk.lt
      clear hkk
      by_cases hgo : k < len2 ∧ k < 20
      · obtain ⟨hlt, hk60⟩ := hgo
        obtain ⟨ab, off, rfl, habl, Fo, hFo⟩ := HM.out (by omega)
        obtain ⟨hoin, hc⟩ := hFo k hlt
        generalize Fo k = ov at hc
        obtain ⟨od, ou, obk, op, on, oodd, pa, pl, pc, zs0⟩ := ov
        have HC := Lib.hid hc
        have cell : ∀ j v, (Op8.l ⟨od, ou, obk, op, on, oodd, pa, pl, pc, zs0⟩)[j]? = some v → j < 7 → wr.cell? ⟨ab, off + k * 7 + j, none⟩ = some v := fun j v hv hj => by
          rw [(HB4.out).cell (p := ⟨ab, off + k * 7 + j, none⟩) habl, hc j hj, hv]
        have c0 : wr.cell? ⟨ab, off + k * 7, none⟩ = some (.int .i64 od) := cell 0 _ rfl (by decide)
        have c1 : wr.cell? ⟨ab, off + k * 7 + 1, none⟩ = some (.int .i64 ou) := cell 1 _ rfl (by decide)
        have c2 : wr.cell? ⟨ab, off + k * 7 + 2, none⟩ = some (.int .i64 obk) := cell 2 _ rfl (by decide)
        have c3 : wr.cell? ⟨ab, off + k * 7 + 3, none⟩ = some (.int .i64 op) := cell 3 _ rfl (by decide)
        have c4 : wr.cell? ⟨ab, off + k * 7 + 4, none⟩ = some (.int .i64 on) := cell 4 _ rfl (by decide)
        have c5 : wr.cell? ⟨ab, off + k * 7 + 5, none⟩ = some (.bool oodd) := cell 5 _ rfl (by decide)
        have c6 : wr.cell? ⟨ab, off + k * 7 + 6, none⟩ = some (.slice pa pl pc) := cell 6 _ rfl (by decide)
        clear cell
        have hk0 : (0 : Int) ≤ k := by omega
        have hkl2 : (k : Int) < len2 := by omega
        have hablr := Nat.lt_of_lt_of_le habl HB4.out.size
        clear hc hFo hoin
        go_wp2_with fail
        refine wp_region_t 11 [(6, []), (7, [6]), (8, [7]), (9, [7]), (10, [8])] 12 (ApJ wr.drew.heap.size (secsD (min s 4).toNat on) (secsO (min s 4).toNat on false)) [?_, ?_, ?_, ?_, ?_, ?_, undef, undef, undef, undef, undef] (by kernel_rfl) (by kernel_rfl) (by kernel_rfl) ApJ.keep ?_
        rotate_left 6
        simp only [List.take_succ_cons, List.take_zero, List.drop_succ_cons, List.drop_zero]
        refine SeqT.run (v := ?_) rfl rfl (fun _ wz hz => ?_) ?_ ?_; rotate_left; (have hzc := hz.cell; have hzf := hz.frozen; go_simp; first | exact UponS.value (Since.refl _) | exact UponS.skip (Since.refl _)); (exact rfl); (try simp only [Act.put, List.setIfInBounds_toArray, List.set_cons_zero, List.set_cons_succ])
        refine SeqT.run (v := ?_) rfl rfl (fun _ wz hz => ?_) ?_ ?_; rotate_left; (have hzc := hz.cell; have hzf := hz.frozen; go_simp; first | exact UponS.value (Since.refl _) | exact UponS.skip (Since.refl _)); (exact rfl); (try simp only [Act.put, List.setIfInBounds_toArray, List.set_cons_zero, List.set_cons_succ])
        refine SeqT.run (v := ?_) rfl rfl (fun _ wz hz => ?_) ?_ ?_; rotate_left; (have hzc := hz.cell; have hzf := hz.frozen; go_simp; first | exact UponS.value (Since.refl _) | exact UponS.skip (Since.refl _)); (exact rfl); (try simp only [Act.put, List.setIfInBounds_toArray, List.set_cons_zero, List.set_cons_succ])
        refine SeqT.run (v := ?_) rfl rfl (fun _ wz hz => ?_) ?_ ?_; rotate_left; (have hzc := hz.cell; have hzf := hz.frozen; go_simp; first | exact UponS.value (Since.refl _) | exact UponS.skip (Since.refl _)); (exact rfl); (try simp only [Act.put, List.setIfInBounds_toArray, List.set_cons_zero, List.set_cons_succ])
        refine SeqT.run (v := ?_) rfl rfl (fun _ wz hz => ?_) ?_ ?_; rotate_left; (have hzc := hz.cell; have hzf := hz.frozen; go_simp; first | exact UponS.value (Since.refl _) | exact UponS.skip (Since.refl _)); (exact rfl); (try simp only [Act.put, List.setIfInBounds_toArray, List.set_cons_zero, List.set_cons_succ])
        refine SeqT.run (v := ?_) rfl rfl (fun _ wz hz => ?_) ?_ ?_; rotate_left; (have hzc := hz.cell; have hzf := hz.frozen; go_simp; first | exact UponS.value (Since.refl _) | exact UponS.skip (Since.refl _)); (exact rfl); (try simp only [Act.put, List.setIfInBounds_toArray, List.set_cons_zero, List.set_cons_succ])
        refine SeqT.tie rfl (by decide) rfl (fun wz hz hd => ?_) (fun v6 _ _ => ?_)
        · clear hd
          go_simp
          refine UponT.call ?_
          go_at_call 22
          refine (sectors_any ⟨c, l, b, p, s⟩ on false wz).mono ?_
          rintro e wy ⟨vd, vo, bs, cs, rfl, h1, h2, h3⟩
          have hd := h1.slsD
          have hoo := h1.slsO
          rw [h2] at hd hoo
          exact ⟨_, rfl, ⟨vd, vo, rfl, hd.mono fun k _ hq => Nat.le_trans hz.below.size hq.1, hoo.mono fun k _ hq => Nat.le_trans hz.below.size hq.1⟩, h3⟩
        (try simp only [Act.put, List.setIfInBounds_toArray, List.set_cons_zero, List.set_cons_succ])
        refine SeqT.tie rfl (by decide) rfl (fun wz hz hd => ?_) (fun v7 _ _ => ?_)
        · obtain ⟨vd, vo, rfl, h1, h2⟩ := hd.all 6 (by decide) v6 _ _ rfl
          clear hd
          go_simp
          exact UponT.value ⟨⟨vd, vo, rfl, h1, h2⟩, Since.refl _⟩
        (try simp only [Act.put, List.setIfInBounds_toArray, List.set_cons_zero, List.set_cons_succ])
        refine SeqT.tie rfl (by decide) rfl (fun wz hz hd => ?_) (fun v8 _ _ => ?_)
        · obtain ⟨vd, vo, rfl, h1, h2⟩ := hd.all 7 (by decide) v7 _ _ rfl
          clear hd
          go_simp
          exact UponT.value ⟨h1, Since.refl _⟩
        (try simp only [Act.put, List.setIfInBounds_toArray, List.set_cons_zero, List.set_cons_succ])
        refine SeqT.tie rfl (by decide) rfl (fun wz hz hd => ?_) (fun v9 _ _ => ?_)
        · obtain ⟨vd, vo, rfl, h1, h2⟩ := hd.all 7 (by decide) v7 _ _ rfl
          clear hd
          go_simp
          exact UponT.value ⟨h2, Since.refl _⟩
        (try simp only [Act.put, List.setIfInBounds_toArray, List.set_cons_zero, List.set_cons_succ])
        refine SeqT.tie rfl (by decide) rfl (fun wz hz hd => ?_) (fun v10 _ _ => ?_)
        · have h1 : Sls wz (fun k => wr.drew.heap.size ≤ k) v8 (secsD (min s 4).toNat on) := hd.all 8 (by decide) v8 _ _ rfl
          clear hd
          go_simp
          exact UponT.value ⟨h1, Since.refl _⟩
        (try simp only [Act.put, List.setIfInBounds_toArray, List.set_cons_zero, List.set_cons_succ])
        intro w5 hz hi
        have h1 : Sls w5 (fun k => wr.drew.heap.size ≤ k) v10 (secsD (min s 4).toNat on) := hi.all 10 v10 _ _ rfl
        have h2 : Sls w5 (fun k => wr.drew.heap.size ≤ k) v9 (secsO (min s 4).toNat on false) := hi.all 9 v9 _ _ rfl
        have hb : Below wr.heap.size wr w5 := (Below.refl wr.heap.size wr).drew.trans hz.below
        have HN5 := Lib.hid (HN4.out.below hb)
        have HF5 := Lib.hid HF4.out
        have HG5 := Lib.hid (HG4.out.below hb)
        have HB5 := Lib.hid (HB4.out.trans (hb.mono HB4.out.size))
        have hin := HN4.out.inF
        have HD5 : Hid (Sls w5 (Away F4 w5.heap.size) v10 _) := Lib.hid (h1.mono fun k hk hq => ⟨fun hf => by have := hin k hf; have : wr.heap.size ≤ k := hq; omega, hk⟩)
        have HO5 : Hid (Sls w5 (Away F4 w5.heap.size) v9 _) := Lib.hid (h2.mono fun k hk hq => ⟨fun hf => by have := hin k hf; have : wr.heap.size ≤ k := hq; omega, hk⟩)
        clear hz hi h1 h2 hin hb c0 c1 c2 c3 c4 c5 c6 hablr HN4 HF4 HG4 HB4
        clear k0 k1 k2 k3 k4 hltk
        (go_wp2_with fail); refine (nandNext_any HN5.out 0 0).mono ?_
        rintro e w6 ⟨rfl, hb⟩
        have HN6 := Lib.hid (HN5.out.below hb)
        have HF6 := Lib.hid HF5.out
        have HG6 := Lib.hid (HG5.out.below hb)
        have HB6 := Lib.hid (HB5.out.trans (hb.mono HB5.out.size))
        have HD6 : Hid (Sls w6 (Away F4 w6.heap.size) _ _) := Lib.hid ((HD5.out.below hb).mono fun k hk hq => ⟨hq.1, hk⟩)
        have HO6 : Hid (Sls w6 (Away F4 w6.heap.size) _ _) := Lib.hid ((HO5.out.below hb).mono fun k hk hq => ⟨hq.1, hk⟩)
        clear hb
        generalize nextO T (findIx ⟨c, l, b, p, s⟩ 0 0) = NX
        (go_wp2_with fail); refine (nandProgram_any HN6.out 0 0 NX v10 v9 _ _ HD6.out HO6.out).mono ?_
        intro e w7 hp
        obtain ⟨rfl, F7, hn, ho, hf⟩ := hp
        have HN7 := Lib.hid hn
        have HF7 : Hid (∀ k, F7 k → w.heap.size < k) := fun k hk => (hf k hk).elim (HF6.out k) fun q => by have := HG6.out.lt; omega
        have HG7 : Hid (Blk w7 w.heap.size 23 _) := Lib.hid ((ho.block w.heap.size HG6.out.lt (fun q => by have := HF6.out _ q; omega)).trans HG6.out)
        have HB7 := Lib.hid (HB6.out.trans (ho.toBelow (B := w.heap.size) (fun k hk => Nat.le_of_lt (HF6.out k hk)) HB6.out.size))
        clear hn ho hf
        have HBY7 := Lib.hid (HBY4.out.prog HOK.out NX (secsD (min s 4).toNat on) (secsO (min s 4).toNat on false))
        generalize (progTo ⟨c, l, b, p, s⟩ T 0 0 NX (secsD (min s 4).toNat on) (secsO (min s 4).toNat on false)).2 = T7 at HN7 HBY7
        clear HN5 HN6 HD5 HD6 HO5 HO6 HG5 HG6 HB5 HB6 HF5 HF6 HBY4
        have hc := HC.out
        have cell : ∀ j v, (Op8.l ⟨od, ou, obk, op, on, oodd, pa, pl, pc, zs0⟩)[j]? = some v → j < 7 → w7.cell? ⟨ab, off + k * 7 + j, none⟩ = some v := fun j v hv hj => by
          rw [(HB7.out).cell (p := ⟨ab, off + k * 7 + j, none⟩) habl, hc j hj, hv]
        have c0 : w7.cell? ⟨ab, off + k * 7, none⟩ = some (.int .i64 od) := cell 0 _ rfl (by decide)
        have c1 : w7.cell? ⟨ab, off + k * 7 + 1, none⟩ = some (.int .i64 ou) := cell 1 _ rfl (by decide)
        have c2 : w7.cell? ⟨ab, off + k * 7 + 2, none⟩ = some (.int .i64 obk) := cell 2 _ rfl (by decide)
        have c3 : w7.cell? ⟨ab, off + k * 7 + 3, none⟩ = some (.int .i64 op) := cell 3 _ rfl (by decide)
        have c4 : w7.cell? ⟨ab, off + k * 7 + 4, none⟩ = some (.int .i64 on) := cell 4 _ rfl (by decide)
        have c5 : w7.cell? ⟨ab, off + k * 7 + 5, none⟩ = some (.bool oodd) := cell 5 _ rfl (by decide)
        have c6 : w7.cell? ⟨ab, off + k * 7 + 6, none⟩ = some (.slice pa pl pc) := cell 6 _ rfl (by decide)
        clear cell
        have hablr := Nat.lt_of_lt_of_le habl HB7.out.size
        clear hc c1 c2 c3 c4 c5 c6
        simp only []
        by_cases h2 : od = 2
        · subst h2
          (go_wp2_with fail); refine (nandErase_any HN7.out 0 0).mono ?_
          intro e w8 hp
          obtain ⟨rfl, F8, hn, ho, hf⟩ := hp
          have HN8 := Lib.hid hn
          have HF8 : Hid (∀ k, F8 k → w.heap.size < k) := fun k hk => (hf k hk).elim (HF7.out k) fun q => by have := HG7.out.lt; omega
          have HG8 : Hid (Blk w8 w.heap.size 23 _) := Lib.hid ((ho.block w.heap.size HG7.out.lt (fun q => by have := HF7.out _ q; omega)).trans HG7.out)
          have HB8 := Lib.hid (HB7.out.trans (ho.toBelow (B := w.heap.size) (fun k hk => Nat.le_of_lt (HF7.out k hk)) HB7.out.size))
          clear hn ho hf c0
          have HBY8 := Lib.hid (HBY7.out.erase HOK.out)
          generalize (eraseTo ⟨c, l, b, p, s⟩ T7 0 0).2 = T8 at HN8 HBY8
          have c0 : w8.cell? ⟨ab, off + k * 7, none⟩ = some (.int .i64 2) := by
            rw [HB8.out.cell (p := ⟨ab, off + k * 7, none⟩) habl]
            exact HC.out 0 (by decide)
          have hablr8 := Nat.lt_of_lt_of_le habl HB8.out.size
          simp only []
          go_wp2_with fail
          go_roundw
          case rel => exact ⟨k + 1, _, F8, by omega, by omega, by go_num, HN8.out, HBY8.out, HF8.out, HG8.out, HB8.out⟩
          case measure => simp [intOf]; omega
        have e2 : (od == 2) = false := by rw [beq_eq_false_iff_ne]; omega
        by_cases h4 : od = 4
        · subst h4
          clear e2 h2
          (go_wp2_with fail); refine (nandRetire_any HN7.out 0 0).mono ?_
          intro e w8 hp
          obtain ⟨rfl, F8, hn, ho, hf⟩ := hp
          have HN8 := Lib.hid hn
          have HF8 : Hid (∀ k, F8 k → w.heap.size < k) := fun k hk => (hf k hk).elim (HF7.out k) fun q => by have := HG7.out.lt; omega
          have HG8 : Hid (Blk w8 w.heap.size 23 _) := Lib.hid ((ho.block w.heap.size HG7.out.lt (fun q => by have := HF7.out _ q; omega)).trans HG7.out)
          have HB8 := Lib.hid (HB7.out.trans (ho.toBelow (B := w.heap.size) (fun k hk => Nat.le_of_lt (HF7.out k hk)) HB7.out.size))
          clear hn ho hf c0
          have HBY8 := Lib.hid (HBY7.out.retire HOK.out)
          generalize (retireTo ⟨c, l, b, p, s⟩ T7 0 0).2 = T8 at HN8 HBY8
          simp only []
          go_wp2_with fail
          go_roundw
          case rel => exact ⟨k + 1, _, F8, by omega, by omega, by go_num, HN8.out, HBY8.out, HF8.out, HG8.out, HB8.out⟩
          case measure => simp [intOf]; omega
        have e4 : (od == 4) = false := by rw [beq_eq_false_iff_ne]; omega
        clear h2 h4
        go_wp2_with fail
        go_roundw
        case rel => exact ⟨k + 1, _, F7, by omega, by omega, by go_num, HN7.out, HBY7.out, HF7.out, HG7.out, HB7.out⟩
        case measure => simp [intOf]; omega
      · have hex : ¬ k < len2 ∨ (k < len2 ∧ ¬ k < 20) := by omega
        clear hgo
        rcases hex with h1 | ⟨h1, h2⟩
        all_goals
          (go_wp2_with fail); refine (others_any HN4.out HBY4.out.inv).mono ?_
          rintro e w5 ⟨rfl, hb⟩
          rw [HSAME.out T HBY4.out]
          have HB5 := Lib.hid (HB4.out.trans (hb.mono HB4.out.size))
          clear hb
          go_wp2_with fail
          go_ret
          exact ⟨rfl, HB5.out⟩

end Go.Proofs.Ytlkapaecaeldpaa
