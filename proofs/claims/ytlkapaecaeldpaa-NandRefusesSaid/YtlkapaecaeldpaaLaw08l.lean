/-
  The law's package over nand: others, little; NandApart.
-/
import Derived.Test.YtlkapaecaeldpaaLaw08g
import Derived.Test.YtlkapaecaeldpaaNandR
set_option linter.unusedVariables false
set_option linter.unusedSimpArgs false
set_option maxRecDepth 16384
namespace Go.Proofs.Ytlkapaecaeldpaa
open Go.RowKit

theorem geomAll_ok8 (g : Geo) (h : g.okB = true) (w : World) : Calls Try.prog 80 #[g.v] w fun e w' => e = .returned (.int .i64 g.all) ∧ Below w.heap.size w w' := by
  have := geomAll_any g w (Geo.ok_of h).wf
  unfold Geo.allI at this
  rwa [if_pos h] at this

/-- what is known within the append of three bytes -/
def OthJ (base sz0 : Nat) (v0 : Value) (n : Nat) (xs ys : List Int) (i : Nat) (v : Value) (lo hi : Nat) (w : World) : Prop :=
  match i with
  | 17 => ∃ g, v = .slice (some ⟨g, 0, none⟩) 3 3 ∧ Blk w g 5 (bv ys)
  | 18 => w.ownsRow base 5 1 v (n + 3) (bv (xs ++ ys)) ∧ (v.ownBlock = v0.ownBlock ∨ ∃ k, v.ownBlock = some k ∧ sz0 ≤ k)
  | _ => True
theorem OthJ.keep {base sz0 : Nat} {v0 : Value} {n : Nat} {xs ys : List Int} (i : Nat) (v : Value) (lo hi : Nat) (w w' : World) (h : OthJ base sz0 v0 n xs ys i v lo hi w) (hs : Since w w') : OthJ base sz0 v0 n xs ys i v lo hi w' := by
  unfold OthJ at *
  split at h
  · obtain ⟨g, h1, h2⟩ := h; exact ⟨g, h1, h2.below hs⟩
  · exact ⟨own_below h.1 hs, h.2⟩
  · trivial

theorem bv_append (xs ys : List Int) : bv (xs ++ ys) = bv xs ++ bv ys := by unfold bv; rw [List.map_append]

set_option maxHeartbeats 4000000 in
theorem others_any {w : World} {F : Nat → Prop} {d : Nat} {g : Geo} {S : NSt} (H : NandAt w F d g S) (hI : SInv g S) :
    Calls Try.prog 52 #[.pointer (some ⟨d, 0, none⟩)] w fun e w' => e = .returned (.string (strOfNums (othersL g S g.all.toNat))) ∧ Below w.heap.size w w' := by
  have HH := Lib.hid H
  have HI := Lib.hid hI
  have hok := H.ok
  have HOK := Lib.hid hok
  have hgo := Geo.ok_of hok
  have hA : 0 ≤ g.all ∧ g.all ≤ 65536 := by
    obtain ⟨m1, m2, m3, m4, m5', m6, m7, m8, m9, m10⟩ := geo_mul hgo.c.1 hgo.c.2 hgo.l.1 hgo.l.2 hgo.b.1 hgo.b.2 hgo.p.1 hgo.p.2 hgo.s.1 hgo.s.2
    exact ⟨Int.le_trans (by decide) m7, m8⟩
  obtain ⟨A, hAA⟩ : ∃ A : Nat, g.all = A := ⟨g.all.toNat, by omega⟩
  have HAL : Hid (∀ wy, Calls Try.prog 80 #[g.v] wy fun e w' => e = .returned (.int .i64 A) ∧ Below wy.heap.size wy w') := fun wy => by
    have := geomAll_ok8 g hok wy
    rwa [hAA] at this
  have HOF : Hid (∀ (k : Nat) wy, k < A → Calls Try.prog 103 #[g.v, .int .i64 k] wy fun e w' => e = .returned (.tuple #[(g.ofP k).v, .int .i64 0]) ∧ Below wy.heap.size wy w') := fun k wy hk => by
    have := geomOf_any g k wy hgo.wf ⟨by omega, by omega⟩
    rwa [show g.ofE k = 0 from by unfold Geo.ofE; rw [if_pos hok, if_pos ⟨by omega, by omega⟩]] at this
  have hAt : g.all.toNat = A := by omega
  have HAA := Lib.hid hAA
  have hA6 : Hid (True → A ≤ 65536) := fun _ => by omega
  rw [hAt]
  clear hgo hA hAA hAt H hI hok
  obtain ⟨c, l, b, p, s⟩ := g
  simp only [Geo.v, Place.v] at HAL HOF
  go_enter Try.func52, Try.ntmps52
  (go_wp2_with fail); refine (nandGeometry_raw HH.out).mono ?_
  rintro e w1 ⟨rfl, hb⟩
  have hb2 : Below w1.heap.size w1 ((w1.alloc (.cells #[.int .i64 c, .int .i64 l, .int .i64 b, .int .i64 p, .int .i64 s] 23)).alloc (.cells #[] 5)) := ((Below.refl _ _).alloc (Nat.le_refl _) _).alloc (by simp) _
  have HG0 := Lib.hid ((Blk.new w1 23 [.int .i64 c, .int .i64 l, .int .i64 b, .int .i64 p, .int .i64 s]).alloc (.cells #[] 5))
  have hs1 := hb.size
  have HO0 : Hid (World.ownsRow ((w1.alloc (.cells #[.int .i64 c, .int .i64 l, .int .i64 b, .int .i64 p, .int .i64 s] 23)).alloc (.cells #[] 5)) w.heap.size 5 1 (.slice (some ⟨w1.heap.size + 1, 0, none⟩) 0 0) 0 (bv [])) := by
    have h := (Blk.new (w1.alloc (.cells #[.int .i64 c, .int .i64 l, .int .i64 b, .int .i64 p, .int .i64 s] 23)) 5 []).own (B := w.heap.size) (by simp; omega) (by simp)
    rw [show (w1.alloc (.cells #[.int .i64 c, .int .i64 l, .int .i64 b, .int .i64 p, .int .i64 s] 23)).heap.size = w1.heap.size + 1 by simp] at h
    exact h
  have HB0 := Lib.hid (hb.trans (hb2.mono hs1))
  have HG1 : Hid (w.heap.size ≤ w1.heap.size) := hs1
  clear hb hb2 hs1
  go_wp2_with fail
  generalize hgb : w1.heap.size = gb at *
  obtain ⟨i0, hif, hz0, hz1, hz2⟩ := info_parts info_u8
  go_loopw [4, 5] (fun t4 t5 wr => ∃ (k : Nat) (v : Value), k ≤ A ∧ v = t4 ∧ t5 = .int .i64 k ∧ Hid (wr.ownsRow w.heap.size 5 1 v (othersL ⟨c, l, b, p, s⟩ S k).length (bv (othersL ⟨c, l, b, p, s⟩ S k))) ∧ Hid (Blk wr gb 23 [.int .i64 c, .int .i64 l, .int .i64 b, .int .i64 p, .int .i64 s]) ∧ Hid (Below w.heap.size w wr)) (fun _ t _ => ((A : Int) - intOf t).toNat)
  case atStart => exact ⟨0, _, by omega, rfl, rfl, HO0.out, HG0.out, HB0.out⟩
  case round =>
    obtain ⟨k, v, hk, rfl, rfl, HOr, HGr, HBr⟩ := hrel
    clear HO0 HG0 HB0
    have hkg := HGr.out
    have k0 : wr.cell? ⟨gb, 0, none⟩ = some (.int .i64 c) := hkg.cell 0; have k1 : wr.cell? ⟨gb, 1, none⟩ = some (.int .i64 l) := hkg.cell 1; have k2 : wr.cell? ⟨gb, 2, none⟩ = some (.int .i64 b) := hkg.cell 2; have k3 : wr.cell? ⟨gb, 3, none⟩ = some (.int .i64 p) := hkg.cell 3; have k4 : wr.cell? ⟨gb, 4, none⟩ = some (.int .i64 s) := hkg.cell 4
    have hltk := hkg.lt
    clear hkg
    (go_wp2_with fail); refine (HAL.out _).mono ?_
    rintro e w2 ⟨rfl, hb⟩
    have HO2 := Lib.hid (own_below HOr.out hb)
    have HG2 := Lib.hid (HGr.out.below hb)
    have HB2 := Lib.hid (HBr.out.trans (hb.mono HBr.out.size))
    clear hb k0 k1 k2 k3 k4 hltk HOr HGr HBr
    have hkg := HG2.out
    have k0 : w2.cell? ⟨gb, 0, none⟩ = some (.int .i64 c) := hkg.cell 0; have k1 : w2.cell? ⟨gb, 1, none⟩ = some (.int .i64 l) := hkg.cell 1; have k2 : w2.cell? ⟨gb, 2, none⟩ = some (.int .i64 b) := hkg.cell 2; have k3 : w2.cell? ⟨gb, 3, none⟩ = some (.int .i64 p) := hkg.cell 3; have k4 : w2.cell? ⟨gb, 4, none⟩ = some (.int .i64 s) := hkg.cell 4
    have hltk := hkg.lt
    clear hkg
    by_cases hlt : k < A
    · have hk1 : (k : Int) < A := by omega
      have HLT : Hid (True → k < A) := fun _ => hlt
      have hwk : IntKind.i64.wrap ((k : Int) + 1) = (k : Int) + 1 := wrap_in _ ⟨by omega, by have := hA6 trivial; omega⟩
      have hkc : ((k + 1 : Nat) : Int) = (k : Int) + 1 := by omega
      have HKC := Lib.hid hkc
      clear hkc
      obtain ⟨⟨u, bl, pg, sc⟩, hP⟩ : ∃ P, Geo.ofP ⟨c, l, b, p, s⟩ (k : Int) = P := ⟨_, rfl⟩
      have hof := fun wy => HOF.out k wy hlt
      rw [hP] at hof
      simp only at hof
      have HOK2 : Hid (∀ wy, Calls Try.prog 103 #[.agg #[.int .i64 c, .int .i64 l, .int .i64 b, .int .i64 p, .int .i64 s], .int .i64 k] wy fun e w' => e = .returned (.tuple #[.agg #[.int .i64 u, .int .i64 bl, .int .i64 pg, .int .i64 sc], .int .i64 0]) ∧ Below wy.heap.size wy w') := hof
      have HPP := Lib.hid hP
      clear hof hP
      (go_wp2_with fail); refine (HOK2.out _).mono ?_
      rintro e w3 ⟨rfl, hb⟩
      have hb4 : Below w3.heap.size w3 (w3.alloc (.cells #[.int .i64 u, .int .i64 bl, .int .i64 pg, .int .i64 sc] 84)) := (Below.refl _ _).alloc (Nat.le_refl _) _
      have HO4 := Lib.hid (own_below (own_below HO2.out hb) hb4)
      have HG4 := Lib.hid ((HG2.out.below hb).below hb4)
      have HB4 := Lib.hid ((HB2.out.trans (hb.mono HB2.out.size)).trans (hb4.mono (Nat.le_trans HB2.out.size hb.size)))
      have HP4 := Lib.hid (Blk.new w3 84 [.int .i64 u, .int .i64 bl, .int .i64 pg, .int .i64 sc])
      clear hb hb4 k0 k1 k2 k3 k4 hltk HO2 HG2 HB2
      generalize hw4 : w3.alloc (.cells #[.int .i64 u, .int .i64 bl, .int .i64 pg, .int .i64 sc] 84) = w4 at HO4 HG4 HB4 HP4
      have p0 : w4.cell? ⟨w3.heap.size, 0, none⟩ = some (.int .i64 u) := HP4.out.cell 0
      have p1 : w4.cell? ⟨w3.heap.size, 1, none⟩ = some (.int .i64 bl) := HP4.out.cell 1
      have hpl := HP4.out.lt
      by_cases hu : u = 0
      · subst hu
        by_cases hbl : bl = 0
        · subst hbl
          have HSTEP : Hid (othersL ⟨c, l, b, p, s⟩ S (k + 1) = othersL ⟨c, l, b, p, s⟩ S k) := by
            show _ = _
            rw [othersL_step, othersOf, if_pos (by rw [HPP.out]; exact ⟨rfl, rfl⟩), List.append_nil]
          go_wp2_with fail
          go_roundw
          case rel => exact ⟨k + 1, _, by have := HLT.out trivial; omega, rfl, by rw [HKC.out], by rw [HSTEP.out]; exact HO4.out, HG4.out, HB4.out⟩
          case measure => have := HLT.out trivial; simp [intOf]; omega
        · have hbb : (bl == 0) = false := by rw [beq_eq_false_iff_ne]; exact hbl
          have HNZ : Hid (¬ ((0 : Int) = 0 ∧ bl = 0)) := fun h => hbl h.2
          clear hbl
          obtain ⟨⟨xs, ys, ec⟩, hRD⟩ : ∃ R, readOf ⟨c, l, b, p, s⟩ S k = R := ⟨_, rfl⟩
          have hrl := HI.out.read (g := ⟨c, l, b, p, s⟩) (k : Int)
          rw [hRD] at hrl
          have HRL := Lib.hid hrl
          obtain ⟨NX, hNX⟩ : ∃ x, nextO S (findIx ⟨c, l, b, p, s⟩ 0 bl) = x := ⟨_, rfl⟩
          obtain ⟨WE, hWE⟩ : ∃ x, wearO S (findIx ⟨c, l, b, p, s⟩ 0 bl) = x := ⟨_, rfl⟩
          have HSTEP : Hid (othersL ⟨c, l, b, p, s⟩ S (k + 1) = othersL ⟨c, l, b, p, s⟩ S k ++ [IntKind.u8.wrap ec, IntKind.u8.wrap NX, IntKind.u8.wrap WE] ++ xs ++ ys) := by
            show _ = _
            rw [othersL_step, othersOf, if_neg (by rw [HPP.out]; exact HNZ.out), HPP.out, hRD, hNX, hWE]
            simp only [List.append_assoc]
          have hlen := othersL_len HI.out k
          obtain ⟨L, hL⟩ : ∃ L, othersL ⟨c, l, b, p, s⟩ S k = L := ⟨_, rfl⟩
          rw [hL] at HO4 HSTEP hlen
          have HLEN : Hid (True → L.length ≤ 13400000) := fun _ => by have := hA6 trivial; omega
          have HRE := Lib.hid hRD
          have HNXE := Lib.hid hNX
          have HWEE := Lib.hid hWE
          clear hrl hRD hNX hWE hlen hL
          (go_wp2_with fail); refine (nandRead_any (HH.out.below HB4.out) k).mono ?_
          intro e w5 hp
          rw [HRE.out] at hp
          obtain ⟨va, vb, rfl, oa, ob, hb⟩ := hp
          have HA5 := Lib.hid oa
          have HV5 := Lib.hid ob
          have HO5 := Lib.hid (own_below HO4.out hb)
          have HG5 := Lib.hid (HG4.out.below hb)
          have HB5 := Lib.hid (HB4.out.trans (hb.mono HB4.out.size))
          have hbP := HP4.out.below hb
          have s0 : w5.cell? ⟨w3.heap.size, 0, none⟩ = some (.int .i64 0) := hbP.cell 0
          have s1 : w5.cell? ⟨w3.heap.size, 1, none⟩ = some (.int .i64 bl) := hbP.cell 1
          have hpl5 := hbP.lt
          have hne : v.ownBlock ≠ some w3.heap.size := own_ne_blk HO5.out hbP (by decide)
          have HVN : Hid (∀ m, v.ownBlock = some m → w.heap.size ≤ m ∧ m < w4.heap.size) := fun m hm => HO4.out.lt m hm
          have HNXC : Hid (∀ wz, w5.grownBy wz v.ownBlock → Calls Try.prog 28 #[.pointer (some ⟨d, 0, none⟩), .int .i64 0, .int .i64 bl] wz fun e w' => e = .returned (.int .i64 NX) ∧ Below wz.heap.size wz w') := fun wz hz => by
            have := nandNext_any (HH.out.below (HB5.out.grown hz HB5.out.size (fun m hm => (HVN.out m hm).1))) 0 bl
            rwa [HNXE.out] at this
          have HWEC : Hid (∀ wz, w5.grownBy wz v.ownBlock → Calls Try.prog 29 #[.pointer (some ⟨d, 0, none⟩), .int .i64 0, .int .i64 bl] wz fun e w' => e = .returned (.int .i64 WE) ∧ Below wz.heap.size wz w') := fun wz hz => by
            have := nandWear_any (HH.out.below (HB5.out.grown hz HB5.out.size (fun m hm => (HVN.out m hm).1))) 0 bl
            rwa [HWEE.out] at this
          have hs5 := HB5.out.size
          have hs45 := hb.size
          clear oa ob hb hbP p0 p1 hpl
          simp only []
          go_wp2_with fail
          refine wp_region_g 19 [(17, []), (18, [17])] 18 (fun q wz => w5.grownBy wz v.ownBlock ∧ (q = false → Since w5.drew wz)) (OthJ w.heap.size w5.heap.size v L.length L [IntKind.u8.wrap ec, IntKind.u8.wrap NX, IntKind.u8.wrap WE]) [?_, ?_, ?_, ?_, ?_, ?_, ?_, ?_, ?_, ?_, ?_, ?_, ?_, ?_, ?_, ?_, ?_, undef, undef] (by kernel_rfl) (by kernel_rfl) (by kernel_rfl) ⟨grown_of_below (Below.refl _ _).drew _, fun _ => Since.refl _⟩ (fun b x y h1 h2 => ⟨grownBy_trans h1.1 (grown_of_below h2 _), fun e => (h1.2 e).trans h2⟩) OthJ.keep ?_
          rotate_left 17
          simp only [List.take_succ_cons, List.take_zero, List.drop_succ_cons, List.drop_zero]
          refine SeqT.run (v := ?_) rfl rfl (fun _ wz hz => ?_) ?_ ?_; rotate_left; (have q0 := hz.1.cell s0 (fun e => hne e.symm); have q1 := hz.1.cell s1 (fun e => hne e.symm); go_simp; first | exact UponS.value (Since.refl _) | exact UponS.skip (Since.refl _) | (refine UponS.call ?_; first | (go_at_call 28; refine (HNXC.out _ hz.1).mono ?_; rintro e wy ⟨rfl, hbb⟩; refine ⟨?_, hbb⟩; rfl) | (go_at_call 29; refine (HWEC.out _ hz.1).mono ?_; rintro e wy ⟨rfl, hbb⟩; refine ⟨?_, hbb⟩; rfl))); (exact rfl); (try simp only [Act.put, List.setIfInBounds_toArray, List.set_cons_zero, List.set_cons_succ])
          refine SeqT.run (v := ?_) rfl rfl (fun _ wz hz => ?_) ?_ ?_; rotate_left; (have q0 := hz.1.cell s0 (fun e => hne e.symm); have q1 := hz.1.cell s1 (fun e => hne e.symm); go_simp; first | exact UponS.value (Since.refl _) | exact UponS.skip (Since.refl _) | (refine UponS.call ?_; first | (go_at_call 28; refine (HNXC.out _ hz.1).mono ?_; rintro e wy ⟨rfl, hbb⟩; refine ⟨?_, hbb⟩; rfl) | (go_at_call 29; refine (HWEC.out _ hz.1).mono ?_; rintro e wy ⟨rfl, hbb⟩; refine ⟨?_, hbb⟩; rfl))); (exact rfl); (try simp only [Act.put, List.setIfInBounds_toArray, List.set_cons_zero, List.set_cons_succ])
          refine SeqT.run (v := ?_) rfl rfl (fun _ wz hz => ?_) ?_ ?_; rotate_left; (have q0 := hz.1.cell s0 (fun e => hne e.symm); have q1 := hz.1.cell s1 (fun e => hne e.symm); go_simp; first | exact UponS.value (Since.refl _) | exact UponS.skip (Since.refl _) | (refine UponS.call ?_; first | (go_at_call 28; refine (HNXC.out _ hz.1).mono ?_; rintro e wy ⟨rfl, hbb⟩; refine ⟨?_, hbb⟩; rfl) | (go_at_call 29; refine (HWEC.out _ hz.1).mono ?_; rintro e wy ⟨rfl, hbb⟩; refine ⟨?_, hbb⟩; rfl))); (exact rfl); (try simp only [Act.put, List.setIfInBounds_toArray, List.set_cons_zero, List.set_cons_succ])
          refine SeqT.run (v := ?_) rfl rfl (fun _ wz hz => ?_) ?_ ?_; rotate_left; (have q0 := hz.1.cell s0 (fun e => hne e.symm); have q1 := hz.1.cell s1 (fun e => hne e.symm); go_simp; first | exact UponS.value (Since.refl _) | exact UponS.skip (Since.refl _) | (refine UponS.call ?_; first | (go_at_call 28; refine (HNXC.out _ hz.1).mono ?_; rintro e wy ⟨rfl, hbb⟩; refine ⟨?_, hbb⟩; rfl) | (go_at_call 29; refine (HWEC.out _ hz.1).mono ?_; rintro e wy ⟨rfl, hbb⟩; refine ⟨?_, hbb⟩; rfl))); (exact rfl); (try simp only [Act.put, List.setIfInBounds_toArray, List.set_cons_zero, List.set_cons_succ])
          refine SeqT.run (v := ?_) rfl rfl (fun _ wz hz => ?_) ?_ ?_; rotate_left; (have q0 := hz.1.cell s0 (fun e => hne e.symm); have q1 := hz.1.cell s1 (fun e => hne e.symm); go_simp; first | exact UponS.value (Since.refl _) | exact UponS.skip (Since.refl _) | (refine UponS.call ?_; first | (go_at_call 28; refine (HNXC.out _ hz.1).mono ?_; rintro e wy ⟨rfl, hbb⟩; refine ⟨?_, hbb⟩; rfl) | (go_at_call 29; refine (HWEC.out _ hz.1).mono ?_; rintro e wy ⟨rfl, hbb⟩; refine ⟨?_, hbb⟩; rfl))); (exact rfl); (try simp only [Act.put, List.setIfInBounds_toArray, List.set_cons_zero, List.set_cons_succ])
          refine SeqT.run (v := ?_) rfl rfl (fun _ wz hz => ?_) ?_ ?_; rotate_left; (have q0 := hz.1.cell s0 (fun e => hne e.symm); have q1 := hz.1.cell s1 (fun e => hne e.symm); go_simp; first | exact UponS.value (Since.refl _) | exact UponS.skip (Since.refl _) | (refine UponS.call ?_; first | (go_at_call 28; refine (HNXC.out _ hz.1).mono ?_; rintro e wy ⟨rfl, hbb⟩; refine ⟨?_, hbb⟩; rfl) | (go_at_call 29; refine (HWEC.out _ hz.1).mono ?_; rintro e wy ⟨rfl, hbb⟩; refine ⟨?_, hbb⟩; rfl))); (exact rfl); (try simp only [Act.put, List.setIfInBounds_toArray, List.set_cons_zero, List.set_cons_succ])
          refine SeqT.run (v := ?_) rfl rfl (fun _ wz hz => ?_) ?_ ?_; rotate_left; (have q0 := hz.1.cell s0 (fun e => hne e.symm); have q1 := hz.1.cell s1 (fun e => hne e.symm); go_simp; first | exact UponS.value (Since.refl _) | exact UponS.skip (Since.refl _) | (refine UponS.call ?_; first | (go_at_call 28; refine (HNXC.out _ hz.1).mono ?_; rintro e wy ⟨rfl, hbb⟩; refine ⟨?_, hbb⟩; rfl) | (go_at_call 29; refine (HWEC.out _ hz.1).mono ?_; rintro e wy ⟨rfl, hbb⟩; refine ⟨?_, hbb⟩; rfl))); (exact rfl); (try simp only [Act.put, List.setIfInBounds_toArray, List.set_cons_zero, List.set_cons_succ])
          refine SeqT.run (v := ?_) rfl rfl (fun _ wz hz => ?_) ?_ ?_; rotate_left; (have q0 := hz.1.cell s0 (fun e => hne e.symm); have q1 := hz.1.cell s1 (fun e => hne e.symm); go_simp; first | exact UponS.value (Since.refl _) | exact UponS.skip (Since.refl _) | (refine UponS.call ?_; first | (go_at_call 28; refine (HNXC.out _ hz.1).mono ?_; rintro e wy ⟨rfl, hbb⟩; refine ⟨?_, hbb⟩; rfl) | (go_at_call 29; refine (HWEC.out _ hz.1).mono ?_; rintro e wy ⟨rfl, hbb⟩; refine ⟨?_, hbb⟩; rfl))); (exact rfl); (try simp only [Act.put, List.setIfInBounds_toArray, List.set_cons_zero, List.set_cons_succ])
          refine SeqT.run (v := ?_) rfl rfl (fun _ wz hz => ?_) ?_ ?_; rotate_left; (have q0 := hz.1.cell s0 (fun e => hne e.symm); have q1 := hz.1.cell s1 (fun e => hne e.symm); go_simp; first | exact UponS.value (Since.refl _) | exact UponS.skip (Since.refl _) | (refine UponS.call ?_; first | (go_at_call 28; refine (HNXC.out _ hz.1).mono ?_; rintro e wy ⟨rfl, hbb⟩; refine ⟨?_, hbb⟩; rfl) | (go_at_call 29; refine (HWEC.out _ hz.1).mono ?_; rintro e wy ⟨rfl, hbb⟩; refine ⟨?_, hbb⟩; rfl))); (exact rfl); (try simp only [Act.put, List.setIfInBounds_toArray, List.set_cons_zero, List.set_cons_succ])
          refine SeqT.run (v := ?_) rfl rfl (fun _ wz hz => ?_) ?_ ?_; rotate_left; (have q0 := hz.1.cell s0 (fun e => hne e.symm); have q1 := hz.1.cell s1 (fun e => hne e.symm); go_simp; first | exact UponS.value (Since.refl _) | exact UponS.skip (Since.refl _) | (refine UponS.call ?_; first | (go_at_call 28; refine (HNXC.out _ hz.1).mono ?_; rintro e wy ⟨rfl, hbb⟩; refine ⟨?_, hbb⟩; rfl) | (go_at_call 29; refine (HWEC.out _ hz.1).mono ?_; rintro e wy ⟨rfl, hbb⟩; refine ⟨?_, hbb⟩; rfl))); (exact rfl); (try simp only [Act.put, List.setIfInBounds_toArray, List.set_cons_zero, List.set_cons_succ])
          refine SeqT.run (v := ?_) rfl rfl (fun _ wz hz => ?_) ?_ ?_; rotate_left; (have q0 := hz.1.cell s0 (fun e => hne e.symm); have q1 := hz.1.cell s1 (fun e => hne e.symm); go_simp; first | exact UponS.value (Since.refl _) | exact UponS.skip (Since.refl _) | (refine UponS.call ?_; first | (go_at_call 28; refine (HNXC.out _ hz.1).mono ?_; rintro e wy ⟨rfl, hbb⟩; refine ⟨?_, hbb⟩; rfl) | (go_at_call 29; refine (HWEC.out _ hz.1).mono ?_; rintro e wy ⟨rfl, hbb⟩; refine ⟨?_, hbb⟩; rfl))); (exact rfl); (try simp only [Act.put, List.setIfInBounds_toArray, List.set_cons_zero, List.set_cons_succ])
          refine SeqT.run (v := ?_) rfl rfl (fun _ wz hz => ?_) ?_ ?_; rotate_left; (have q0 := hz.1.cell s0 (fun e => hne e.symm); have q1 := hz.1.cell s1 (fun e => hne e.symm); go_simp; first | exact UponS.value (Since.refl _) | exact UponS.skip (Since.refl _) | (refine UponS.call ?_; first | (go_at_call 28; refine (HNXC.out _ hz.1).mono ?_; rintro e wy ⟨rfl, hbb⟩; refine ⟨?_, hbb⟩; rfl) | (go_at_call 29; refine (HWEC.out _ hz.1).mono ?_; rintro e wy ⟨rfl, hbb⟩; refine ⟨?_, hbb⟩; rfl))); (exact rfl); (try simp only [Act.put, List.setIfInBounds_toArray, List.set_cons_zero, List.set_cons_succ])
          refine SeqT.run (v := ?_) rfl rfl (fun _ wz hz => ?_) ?_ ?_; rotate_left; (have q0 := hz.1.cell s0 (fun e => hne e.symm); have q1 := hz.1.cell s1 (fun e => hne e.symm); go_simp; first | exact UponS.value (Since.refl _) | exact UponS.skip (Since.refl _) | (refine UponS.call ?_; first | (go_at_call 28; refine (HNXC.out _ hz.1).mono ?_; rintro e wy ⟨rfl, hbb⟩; refine ⟨?_, hbb⟩; rfl) | (go_at_call 29; refine (HWEC.out _ hz.1).mono ?_; rintro e wy ⟨rfl, hbb⟩; refine ⟨?_, hbb⟩; rfl))); (exact rfl); (try simp only [Act.put, List.setIfInBounds_toArray, List.set_cons_zero, List.set_cons_succ])
          refine SeqT.run (v := ?_) rfl rfl (fun _ wz hz => ?_) ?_ ?_; rotate_left; (have q0 := hz.1.cell s0 (fun e => hne e.symm); have q1 := hz.1.cell s1 (fun e => hne e.symm); go_simp; first | exact UponS.value (Since.refl _) | exact UponS.skip (Since.refl _) | (refine UponS.call ?_; first | (go_at_call 28; refine (HNXC.out _ hz.1).mono ?_; rintro e wy ⟨rfl, hbb⟩; refine ⟨?_, hbb⟩; rfl) | (go_at_call 29; refine (HWEC.out _ hz.1).mono ?_; rintro e wy ⟨rfl, hbb⟩; refine ⟨?_, hbb⟩; rfl))); (exact rfl); (try simp only [Act.put, List.setIfInBounds_toArray, List.set_cons_zero, List.set_cons_succ])
          refine SeqT.run (v := ?_) rfl rfl (fun _ wz hz => ?_) ?_ ?_; rotate_left; (have q0 := hz.1.cell s0 (fun e => hne e.symm); have q1 := hz.1.cell s1 (fun e => hne e.symm); go_simp; first | exact UponS.value (Since.refl _) | exact UponS.skip (Since.refl _) | (refine UponS.call ?_; first | (go_at_call 28; refine (HNXC.out _ hz.1).mono ?_; rintro e wy ⟨rfl, hbb⟩; refine ⟨?_, hbb⟩; rfl) | (go_at_call 29; refine (HWEC.out _ hz.1).mono ?_; rintro e wy ⟨rfl, hbb⟩; refine ⟨?_, hbb⟩; rfl))); (exact rfl); (try simp only [Act.put, List.setIfInBounds_toArray, List.set_cons_zero, List.set_cons_succ])
          refine SeqT.run (v := ?_) rfl rfl (fun _ wz hz => ?_) ?_ ?_; rotate_left; (have q0 := hz.1.cell s0 (fun e => hne e.symm); have q1 := hz.1.cell s1 (fun e => hne e.symm); go_simp; first | exact UponS.value (Since.refl _) | exact UponS.skip (Since.refl _) | (refine UponS.call ?_; first | (go_at_call 28; refine (HNXC.out _ hz.1).mono ?_; rintro e wy ⟨rfl, hbb⟩; refine ⟨?_, hbb⟩; rfl) | (go_at_call 29; refine (HWEC.out _ hz.1).mono ?_; rintro e wy ⟨rfl, hbb⟩; refine ⟨?_, hbb⟩; rfl))); (exact rfl); (try simp only [Act.put, List.setIfInBounds_toArray, List.set_cons_zero, List.set_cons_succ])
          refine SeqT.run (v := ?_) rfl rfl (fun _ wz hz => ?_) ?_ ?_; rotate_left; (have q0 := hz.1.cell s0 (fun e => hne e.symm); have q1 := hz.1.cell s1 (fun e => hne e.symm); go_simp; first | exact UponS.value (Since.refl _) | exact UponS.skip (Since.refl _) | (refine UponS.call ?_; first | (go_at_call 28; refine (HNXC.out _ hz.1).mono ?_; rintro e wy ⟨rfl, hbb⟩; refine ⟨?_, hbb⟩; rfl) | (go_at_call 29; refine (HWEC.out _ hz.1).mono ?_; rintro e wy ⟨rfl, hbb⟩; refine ⟨?_, hbb⟩; rfl))); (exact rfl); (try simp only [Act.put, List.setIfInBounds_toArray, List.set_cons_zero, List.set_cons_succ])
          refine SeqT.tie rfl (by decide) rfl (fun wz hz hd => ?_) (fun v17 _ _ => ?_)
          · have HJ : Hid (OthJ w.heap.size w5.heap.size v L.length L [IntKind.u8.wrap ec, IntKind.u8.wrap NX, IntKind.u8.wrap WE] 17 (.slice (some ⟨wz.heap.size, 0, none⟩) 3 3) wz.heap.size (wz.heap.size + 1) (wz.alloc (.cells #[.int .u8 (IntKind.u8.wrap ec), .int .u8 (IntKind.u8.wrap NX), .int .u8 (IntKind.u8.wrap WE)] 5))) := Lib.hid ⟨_, rfl, Blk.new wz 5 [_, _, _]⟩
            clear hd hz
            go_simp
            exact UponT.value ⟨HJ.out, (Below.refl _ _).alloc (Nat.le_refl _) _⟩
          (try simp only [Act.put, List.setIfInBounds_toArray, List.set_cons_zero, List.set_cons_succ])
          refine SeqT.write rfl rfl rfl (fun wz hz hd => ?_) (fun v18 _ _ => ?_)
          · obtain ⟨g8, rfl, hk8⟩ := hd.all 17 (by decide) v17 _ _ rfl
            obtain ⟨v', w', hr, ho, hg, hat⟩ := run_append_sl (P := Try.prog) w.heap.size 45 45 5 i0 (.int .u8 0) 1 Try.underlying45 hif hz0 hz1 hz2 rfl v L.length (bv L) (own_below HO5.out ((Below.refl _ _).drew.trans (hz.2 rfl).below)) 0 (.slice (some ⟨g8, 0, none⟩) 3 3) _ (hk8.sl (Nat.zero_le _) (by simp [bv])) (oneCell_bv _) (by have := HLEN.out trivial; unfold maxLen; simp [bv]; omega) (by have := HLEN.out trivial; simp [bv]; omega) (by have := hz.1.size; omega)
            refine UponT.append _ _ _ _ _ _ rfl rfl rfl hr ⟨⟨by rw [bv_append]; exact ho, ?_⟩, grownBy_trans hz.1 hg, fun e => by (cases e)⟩
            rcases hat with hat | hat
            · exact .inl hat
            · exact .inr ⟨_, hat, hz.1.size⟩
          (try simp only [Act.put, List.setIfInBounds_toArray, List.set_cons_zero, List.set_cons_succ])
          intro wb hz hi
          obtain ⟨ho, hat⟩ := hi.all 18 v18 _ _ rfl
          have hAN : ∀ m, va.ownBlock = some m → w4.heap.size ≤ m ∧ m < w5.heap.size := fun m hm => HA5.out.lt m hm
          have hVN' : ∀ m, vb.ownBlock = some m → w4.heap.size ≤ m ∧ m < w5.heap.size := fun m hm => HV5.out.lt m hm
          have hneq : ∀ x : Value, (∀ m, x.ownBlock = some m → w4.heap.size ≤ m ∧ m < w5.heap.size) → x.ownBlock = none ∨ (x.ownBlock ≠ v.ownBlock ∧ x.ownBlock ≠ v18.ownBlock) := fun x hx => by
            cases hxb : x.ownBlock with
            | none => exact .inl rfl
            | some m =>
              have h1 := hx m hxb
              refine .inr ⟨fun e => ?_, fun e => ?_⟩
              · have := HVN.out m e.symm; omega
              · rcases hat with hat | ⟨m', hat, hm'⟩
                · have := HVN.out m (by rw [← hat]; exact e.symm); omega
                · rw [hat] at e
                  have := Option.some.inj e
                  omega
          have HOB : Hid (wb.ownsRow w.heap.size 5 1 v18 (L.length + 3) (bv (L ++ [IntKind.u8.wrap ec, IntKind.u8.wrap NX, IntKind.u8.wrap WE]))) := ho
          have HAB := Lib.hid (HA5.out.kept hz.1 ((hneq va hAN).imp id fun q => q.1))
          have HVB := Lib.hid (HV5.out.kept hz.1 ((hneq vb hVN').imp id fun q => q.1))
          have HVX := Lib.hid (hneq vb hVN')
          have HGB := Lib.hid (HG5.out.grown hz.1 (own_ne_blk HO5.out HG5.out (by decide)))
          have HBB := Lib.hid (HB5.out.grown hz.1 hs5 (fun m hm => (HVN.out m hm).1))
          clear hz hi ho hat hAN hVN' hneq s0 s1 hpl5 hne
          have hsb := HBB.out.size
          go_wp2_with (first
            | (at_builtin; go_must (refine wpList_append_sl wb rfl (.tmp 60) (.tmp 61) 45 rfl w.heap.size 5 i0 (.int .u8 0) 1 Try.underlying45 hif hz0 hz1 hz2 rfl v18 (L.length + 3) _ rfl HOB.out 0 va (bv xs) rfl (Sl.mono (Sl.of_own HAB.out (by rw [bv_length]; have := HRL.out.1; omega)) (Nat.zero_le _)) (oneCell_bv _) (by rw [bv_length]; have := HLEN.out trivial; have := HRL.out.1; unfold maxLen; omega) (by rw [bv_length]; have := HLEN.out trivial; have := HRL.out.1; omega) hsb ?K)))
          case K =>
            intro v6 w6 ho6 hg6
            have HO6 := Lib.hid ho6
            have HV6 := Lib.hid (HVB.out.kept hg6 (HVX.out.imp id fun q => q.2))
            have HG6 := Lib.hid (HGB.out.grown hg6 (own_ne_blk HOB.out HGB.out (by decide)))
            have HB6 := Lib.hid (HBB.out.grown hg6 hsb (fun m hm => (HOB.out.lt m hm).1))
            have hs6 := HB6.out.size
            clear ho6 hg6
            go_wp2_with (first
              | (at_builtin; go_must (refine wpList_append_sl w6 rfl (.tmp 62) (.tmp 63) 45 rfl w.heap.size 5 i0 (.int .u8 0) 1 Try.underlying45 hif hz0 hz1 hz2 rfl v6 _ _ rfl HO6.out 0 vb (bv ys) rfl (Sl.mono (Sl.of_own HV6.out (by rw [bv_length]; have := HRL.out.2; omega)) (Nat.zero_le _)) (oneCell_bv _) (by rw [bv_length, bv_length]; have := HLEN.out trivial; have := HRL.out; unfold maxLen; omega) (by rw [bv_length, bv_length]; have := HLEN.out trivial; have := HRL.out; omega) hs6 ?K)))
            case K =>
              intro v7 w7 ho7 hg7
              have HG7 := Lib.hid (HG6.out.grown hg7 (own_ne_blk HO6.out HG6.out (by decide)))
              have HB7 := Lib.hid (HB6.out.grown hg7 hs6 (fun m hm => (HO6.out.lt m hm).1))
              have HO7 : Hid (w7.ownsRow w.heap.size 5 1 v7 (othersL ⟨c, l, b, p, s⟩ S (k + 1)).length (bv (othersL ⟨c, l, b, p, s⟩ S (k + 1)))) := by
                show World.ownsRow _ _ _ _ _ _ _
                rw [HSTEP.out, bv_append, bv_append]
                simp only [List.length_append, List.length_cons, List.length_nil]
                simpa [bv_length] using ho7
              clear ho7 hg7
              go_wp2_with fail
              go_roundw
              case rel => exact ⟨k + 1, _, by have := HLT.out trivial; omega, rfl, by rw [HKC.out], HO7.out, HG7.out, HB7.out⟩
              case measure => have := HLT.out trivial; simp [intOf]; omega
      · have hbb : (u == 0) = false := by rw [beq_eq_false_iff_ne]; exact hu
        have HNZ : Hid (¬ (u = 0 ∧ bl = 0)) := fun h => hu h.1
        clear hu
        obtain ⟨⟨xs, ys, ec⟩, hRD⟩ : ∃ R, readOf ⟨c, l, b, p, s⟩ S k = R := ⟨_, rfl⟩
        have hrl := HI.out.read (g := ⟨c, l, b, p, s⟩) (k : Int)
        rw [hRD] at hrl
        have HRL := Lib.hid hrl
        obtain ⟨NX, hNX⟩ : ∃ x, nextO S (findIx ⟨c, l, b, p, s⟩ u bl) = x := ⟨_, rfl⟩
        obtain ⟨WE, hWE⟩ : ∃ x, wearO S (findIx ⟨c, l, b, p, s⟩ u bl) = x := ⟨_, rfl⟩
        have HSTEP : Hid (othersL ⟨c, l, b, p, s⟩ S (k + 1) = othersL ⟨c, l, b, p, s⟩ S k ++ [IntKind.u8.wrap ec, IntKind.u8.wrap NX, IntKind.u8.wrap WE] ++ xs ++ ys) := by
          show _ = _
          rw [othersL_step, othersOf, if_neg (by rw [HPP.out]; exact HNZ.out), HPP.out, hRD, hNX, hWE]
          simp only [List.append_assoc]
        have hlen := othersL_len HI.out k
        obtain ⟨L, hL⟩ : ∃ L, othersL ⟨c, l, b, p, s⟩ S k = L := ⟨_, rfl⟩
        rw [hL] at HO4 HSTEP hlen
        have HLEN : Hid (True → L.length ≤ 13400000) := fun _ => by have := hA6 trivial; omega
        have HRE := Lib.hid hRD
        have HNXE := Lib.hid hNX
        have HWEE := Lib.hid hWE
        clear hrl hRD hNX hWE hlen hL
        (go_wp2_with fail); refine (nandRead_any (HH.out.below HB4.out) k).mono ?_
        intro e w5 hp
        rw [HRE.out] at hp
        obtain ⟨va, vb, rfl, oa, ob, hb⟩ := hp
        have HA5 := Lib.hid oa
        have HV5 := Lib.hid ob
        have HO5 := Lib.hid (own_below HO4.out hb)
        have HG5 := Lib.hid (HG4.out.below hb)
        have HB5 := Lib.hid (HB4.out.trans (hb.mono HB4.out.size))
        have hbP := HP4.out.below hb
        have s0 : w5.cell? ⟨w3.heap.size, 0, none⟩ = some (.int .i64 u) := hbP.cell 0
        have s1 : w5.cell? ⟨w3.heap.size, 1, none⟩ = some (.int .i64 bl) := hbP.cell 1
        have hpl5 := hbP.lt
        have hne : v.ownBlock ≠ some w3.heap.size := own_ne_blk HO5.out hbP (by decide)
        have HVN : Hid (∀ m, v.ownBlock = some m → w.heap.size ≤ m ∧ m < w4.heap.size) := fun m hm => HO4.out.lt m hm
        have HNXC : Hid (∀ wz, w5.grownBy wz v.ownBlock → Calls Try.prog 28 #[.pointer (some ⟨d, 0, none⟩), .int .i64 u, .int .i64 bl] wz fun e w' => e = .returned (.int .i64 NX) ∧ Below wz.heap.size wz w') := fun wz hz => by
          have := nandNext_any (HH.out.below (HB5.out.grown hz HB5.out.size (fun m hm => (HVN.out m hm).1))) u bl
          rwa [HNXE.out] at this
        have HWEC : Hid (∀ wz, w5.grownBy wz v.ownBlock → Calls Try.prog 29 #[.pointer (some ⟨d, 0, none⟩), .int .i64 u, .int .i64 bl] wz fun e w' => e = .returned (.int .i64 WE) ∧ Below wz.heap.size wz w') := fun wz hz => by
          have := nandWear_any (HH.out.below (HB5.out.grown hz HB5.out.size (fun m hm => (HVN.out m hm).1))) u bl
          rwa [HWEE.out] at this
        have hs5 := HB5.out.size
        have hs45 := hb.size
        clear oa ob hb hbP p0 p1 hpl
        simp only []
        go_wp2_with fail
        refine wp_region_g 19 [(17, []), (18, [17])] 18 (fun q wz => w5.grownBy wz v.ownBlock ∧ (q = false → Since w5.drew wz)) (OthJ w.heap.size w5.heap.size v L.length L [IntKind.u8.wrap ec, IntKind.u8.wrap NX, IntKind.u8.wrap WE]) [?_, ?_, ?_, ?_, ?_, ?_, ?_, ?_, ?_, ?_, ?_, ?_, ?_, ?_, ?_, ?_, ?_, undef, undef] (by kernel_rfl) (by kernel_rfl) (by kernel_rfl) ⟨grown_of_below (Below.refl _ _).drew _, fun _ => Since.refl _⟩ (fun b x y h1 h2 => ⟨grownBy_trans h1.1 (grown_of_below h2 _), fun e => (h1.2 e).trans h2⟩) OthJ.keep ?_
        rotate_left 17
        simp only [List.take_succ_cons, List.take_zero, List.drop_succ_cons, List.drop_zero]
        refine SeqT.run (v := ?_) rfl rfl (fun _ wz hz => ?_) ?_ ?_; rotate_left; (have q0 := hz.1.cell s0 (fun e => hne e.symm); have q1 := hz.1.cell s1 (fun e => hne e.symm); go_simp; first | exact UponS.value (Since.refl _) | exact UponS.skip (Since.refl _) | (refine UponS.call ?_; first | (go_at_call 28; refine (HNXC.out _ hz.1).mono ?_; rintro e wy ⟨rfl, hbb⟩; refine ⟨?_, hbb⟩; rfl) | (go_at_call 29; refine (HWEC.out _ hz.1).mono ?_; rintro e wy ⟨rfl, hbb⟩; refine ⟨?_, hbb⟩; rfl))); (exact rfl); (try simp only [Act.put, List.setIfInBounds_toArray, List.set_cons_zero, List.set_cons_succ])
        refine SeqT.run (v := ?_) rfl rfl (fun _ wz hz => ?_) ?_ ?_; rotate_left; (have q0 := hz.1.cell s0 (fun e => hne e.symm); have q1 := hz.1.cell s1 (fun e => hne e.symm); go_simp; first | exact UponS.value (Since.refl _) | exact UponS.skip (Since.refl _) | (refine UponS.call ?_; first | (go_at_call 28; refine (HNXC.out _ hz.1).mono ?_; rintro e wy ⟨rfl, hbb⟩; refine ⟨?_, hbb⟩; rfl) | (go_at_call 29; refine (HWEC.out _ hz.1).mono ?_; rintro e wy ⟨rfl, hbb⟩; refine ⟨?_, hbb⟩; rfl))); (exact rfl); (try simp only [Act.put, List.setIfInBounds_toArray, List.set_cons_zero, List.set_cons_succ])
        refine SeqT.run (v := ?_) rfl rfl (fun _ wz hz => ?_) ?_ ?_; rotate_left; (have q0 := hz.1.cell s0 (fun e => hne e.symm); have q1 := hz.1.cell s1 (fun e => hne e.symm); go_simp; first | exact UponS.value (Since.refl _) | exact UponS.skip (Since.refl _) | (refine UponS.call ?_; first | (go_at_call 28; refine (HNXC.out _ hz.1).mono ?_; rintro e wy ⟨rfl, hbb⟩; refine ⟨?_, hbb⟩; rfl) | (go_at_call 29; refine (HWEC.out _ hz.1).mono ?_; rintro e wy ⟨rfl, hbb⟩; refine ⟨?_, hbb⟩; rfl))); (exact rfl); (try simp only [Act.put, List.setIfInBounds_toArray, List.set_cons_zero, List.set_cons_succ])
        refine SeqT.run (v := ?_) rfl rfl (fun _ wz hz => ?_) ?_ ?_; rotate_left; (have q0 := hz.1.cell s0 (fun e => hne e.symm); have q1 := hz.1.cell s1 (fun e => hne e.symm); go_simp; first | exact UponS.value (Since.refl _) | exact UponS.skip (Since.refl _) | (refine UponS.call ?_; first | (go_at_call 28; refine (HNXC.out _ hz.1).mono ?_; rintro e wy ⟨rfl, hbb⟩; refine ⟨?_, hbb⟩; rfl) | (go_at_call 29; refine (HWEC.out _ hz.1).mono ?_; rintro e wy ⟨rfl, hbb⟩; refine ⟨?_, hbb⟩; rfl))); (exact rfl); (try simp only [Act.put, List.setIfInBounds_toArray, List.set_cons_zero, List.set_cons_succ])
        refine SeqT.run (v := ?_) rfl rfl (fun _ wz hz => ?_) ?_ ?_; rotate_left; (have q0 := hz.1.cell s0 (fun e => hne e.symm); have q1 := hz.1.cell s1 (fun e => hne e.symm); go_simp; first | exact UponS.value (Since.refl _) | exact UponS.skip (Since.refl _) | (refine UponS.call ?_; first | (go_at_call 28; refine (HNXC.out _ hz.1).mono ?_; rintro e wy ⟨rfl, hbb⟩; refine ⟨?_, hbb⟩; rfl) | (go_at_call 29; refine (HWEC.out _ hz.1).mono ?_; rintro e wy ⟨rfl, hbb⟩; refine ⟨?_, hbb⟩; rfl))); (exact rfl); (try simp only [Act.put, List.setIfInBounds_toArray, List.set_cons_zero, List.set_cons_succ])
        refine SeqT.run (v := ?_) rfl rfl (fun _ wz hz => ?_) ?_ ?_; rotate_left; (have q0 := hz.1.cell s0 (fun e => hne e.symm); have q1 := hz.1.cell s1 (fun e => hne e.symm); go_simp; first | exact UponS.value (Since.refl _) | exact UponS.skip (Since.refl _) | (refine UponS.call ?_; first | (go_at_call 28; refine (HNXC.out _ hz.1).mono ?_; rintro e wy ⟨rfl, hbb⟩; refine ⟨?_, hbb⟩; rfl) | (go_at_call 29; refine (HWEC.out _ hz.1).mono ?_; rintro e wy ⟨rfl, hbb⟩; refine ⟨?_, hbb⟩; rfl))); (exact rfl); (try simp only [Act.put, List.setIfInBounds_toArray, List.set_cons_zero, List.set_cons_succ])
        refine SeqT.run (v := ?_) rfl rfl (fun _ wz hz => ?_) ?_ ?_; rotate_left; (have q0 := hz.1.cell s0 (fun e => hne e.symm); have q1 := hz.1.cell s1 (fun e => hne e.symm); go_simp; first | exact UponS.value (Since.refl _) | exact UponS.skip (Since.refl _) | (refine UponS.call ?_; first | (go_at_call 28; refine (HNXC.out _ hz.1).mono ?_; rintro e wy ⟨rfl, hbb⟩; refine ⟨?_, hbb⟩; rfl) | (go_at_call 29; refine (HWEC.out _ hz.1).mono ?_; rintro e wy ⟨rfl, hbb⟩; refine ⟨?_, hbb⟩; rfl))); (exact rfl); (try simp only [Act.put, List.setIfInBounds_toArray, List.set_cons_zero, List.set_cons_succ])
        refine SeqT.run (v := ?_) rfl rfl (fun _ wz hz => ?_) ?_ ?_; rotate_left; (have q0 := hz.1.cell s0 (fun e => hne e.symm); have q1 := hz.1.cell s1 (fun e => hne e.symm); go_simp; first | exact UponS.value (Since.refl _) | exact UponS.skip (Since.refl _) | (refine UponS.call ?_; first | (go_at_call 28; refine (HNXC.out _ hz.1).mono ?_; rintro e wy ⟨rfl, hbb⟩; refine ⟨?_, hbb⟩; rfl) | (go_at_call 29; refine (HWEC.out _ hz.1).mono ?_; rintro e wy ⟨rfl, hbb⟩; refine ⟨?_, hbb⟩; rfl))); (exact rfl); (try simp only [Act.put, List.setIfInBounds_toArray, List.set_cons_zero, List.set_cons_succ])
        refine SeqT.run (v := ?_) rfl rfl (fun _ wz hz => ?_) ?_ ?_; rotate_left; (have q0 := hz.1.cell s0 (fun e => hne e.symm); have q1 := hz.1.cell s1 (fun e => hne e.symm); go_simp; first | exact UponS.value (Since.refl _) | exact UponS.skip (Since.refl _) | (refine UponS.call ?_; first | (go_at_call 28; refine (HNXC.out _ hz.1).mono ?_; rintro e wy ⟨rfl, hbb⟩; refine ⟨?_, hbb⟩; rfl) | (go_at_call 29; refine (HWEC.out _ hz.1).mono ?_; rintro e wy ⟨rfl, hbb⟩; refine ⟨?_, hbb⟩; rfl))); (exact rfl); (try simp only [Act.put, List.setIfInBounds_toArray, List.set_cons_zero, List.set_cons_succ])
        refine SeqT.run (v := ?_) rfl rfl (fun _ wz hz => ?_) ?_ ?_; rotate_left; (have q0 := hz.1.cell s0 (fun e => hne e.symm); have q1 := hz.1.cell s1 (fun e => hne e.symm); go_simp; first | exact UponS.value (Since.refl _) | exact UponS.skip (Since.refl _) | (refine UponS.call ?_; first | (go_at_call 28; refine (HNXC.out _ hz.1).mono ?_; rintro e wy ⟨rfl, hbb⟩; refine ⟨?_, hbb⟩; rfl) | (go_at_call 29; refine (HWEC.out _ hz.1).mono ?_; rintro e wy ⟨rfl, hbb⟩; refine ⟨?_, hbb⟩; rfl))); (exact rfl); (try simp only [Act.put, List.setIfInBounds_toArray, List.set_cons_zero, List.set_cons_succ])
        refine SeqT.run (v := ?_) rfl rfl (fun _ wz hz => ?_) ?_ ?_; rotate_left; (have q0 := hz.1.cell s0 (fun e => hne e.symm); have q1 := hz.1.cell s1 (fun e => hne e.symm); go_simp; first | exact UponS.value (Since.refl _) | exact UponS.skip (Since.refl _) | (refine UponS.call ?_; first | (go_at_call 28; refine (HNXC.out _ hz.1).mono ?_; rintro e wy ⟨rfl, hbb⟩; refine ⟨?_, hbb⟩; rfl) | (go_at_call 29; refine (HWEC.out _ hz.1).mono ?_; rintro e wy ⟨rfl, hbb⟩; refine ⟨?_, hbb⟩; rfl))); (exact rfl); (try simp only [Act.put, List.setIfInBounds_toArray, List.set_cons_zero, List.set_cons_succ])
        refine SeqT.run (v := ?_) rfl rfl (fun _ wz hz => ?_) ?_ ?_; rotate_left; (have q0 := hz.1.cell s0 (fun e => hne e.symm); have q1 := hz.1.cell s1 (fun e => hne e.symm); go_simp; first | exact UponS.value (Since.refl _) | exact UponS.skip (Since.refl _) | (refine UponS.call ?_; first | (go_at_call 28; refine (HNXC.out _ hz.1).mono ?_; rintro e wy ⟨rfl, hbb⟩; refine ⟨?_, hbb⟩; rfl) | (go_at_call 29; refine (HWEC.out _ hz.1).mono ?_; rintro e wy ⟨rfl, hbb⟩; refine ⟨?_, hbb⟩; rfl))); (exact rfl); (try simp only [Act.put, List.setIfInBounds_toArray, List.set_cons_zero, List.set_cons_succ])
        refine SeqT.run (v := ?_) rfl rfl (fun _ wz hz => ?_) ?_ ?_; rotate_left; (have q0 := hz.1.cell s0 (fun e => hne e.symm); have q1 := hz.1.cell s1 (fun e => hne e.symm); go_simp; first | exact UponS.value (Since.refl _) | exact UponS.skip (Since.refl _) | (refine UponS.call ?_; first | (go_at_call 28; refine (HNXC.out _ hz.1).mono ?_; rintro e wy ⟨rfl, hbb⟩; refine ⟨?_, hbb⟩; rfl) | (go_at_call 29; refine (HWEC.out _ hz.1).mono ?_; rintro e wy ⟨rfl, hbb⟩; refine ⟨?_, hbb⟩; rfl))); (exact rfl); (try simp only [Act.put, List.setIfInBounds_toArray, List.set_cons_zero, List.set_cons_succ])
        refine SeqT.run (v := ?_) rfl rfl (fun _ wz hz => ?_) ?_ ?_; rotate_left; (have q0 := hz.1.cell s0 (fun e => hne e.symm); have q1 := hz.1.cell s1 (fun e => hne e.symm); go_simp; first | exact UponS.value (Since.refl _) | exact UponS.skip (Since.refl _) | (refine UponS.call ?_; first | (go_at_call 28; refine (HNXC.out _ hz.1).mono ?_; rintro e wy ⟨rfl, hbb⟩; refine ⟨?_, hbb⟩; rfl) | (go_at_call 29; refine (HWEC.out _ hz.1).mono ?_; rintro e wy ⟨rfl, hbb⟩; refine ⟨?_, hbb⟩; rfl))); (exact rfl); (try simp only [Act.put, List.setIfInBounds_toArray, List.set_cons_zero, List.set_cons_succ])
        refine SeqT.run (v := ?_) rfl rfl (fun _ wz hz => ?_) ?_ ?_; rotate_left; (have q0 := hz.1.cell s0 (fun e => hne e.symm); have q1 := hz.1.cell s1 (fun e => hne e.symm); go_simp; first | exact UponS.value (Since.refl _) | exact UponS.skip (Since.refl _) | (refine UponS.call ?_; first | (go_at_call 28; refine (HNXC.out _ hz.1).mono ?_; rintro e wy ⟨rfl, hbb⟩; refine ⟨?_, hbb⟩; rfl) | (go_at_call 29; refine (HWEC.out _ hz.1).mono ?_; rintro e wy ⟨rfl, hbb⟩; refine ⟨?_, hbb⟩; rfl))); (exact rfl); (try simp only [Act.put, List.setIfInBounds_toArray, List.set_cons_zero, List.set_cons_succ])
        refine SeqT.run (v := ?_) rfl rfl (fun _ wz hz => ?_) ?_ ?_; rotate_left; (have q0 := hz.1.cell s0 (fun e => hne e.symm); have q1 := hz.1.cell s1 (fun e => hne e.symm); go_simp; first | exact UponS.value (Since.refl _) | exact UponS.skip (Since.refl _) | (refine UponS.call ?_; first | (go_at_call 28; refine (HNXC.out _ hz.1).mono ?_; rintro e wy ⟨rfl, hbb⟩; refine ⟨?_, hbb⟩; rfl) | (go_at_call 29; refine (HWEC.out _ hz.1).mono ?_; rintro e wy ⟨rfl, hbb⟩; refine ⟨?_, hbb⟩; rfl))); (exact rfl); (try simp only [Act.put, List.setIfInBounds_toArray, List.set_cons_zero, List.set_cons_succ])
        refine SeqT.run (v := ?_) rfl rfl (fun _ wz hz => ?_) ?_ ?_; rotate_left; (have q0 := hz.1.cell s0 (fun e => hne e.symm); have q1 := hz.1.cell s1 (fun e => hne e.symm); go_simp; first | exact UponS.value (Since.refl _) | exact UponS.skip (Since.refl _) | (refine UponS.call ?_; first | (go_at_call 28; refine (HNXC.out _ hz.1).mono ?_; rintro e wy ⟨rfl, hbb⟩; refine ⟨?_, hbb⟩; rfl) | (go_at_call 29; refine (HWEC.out _ hz.1).mono ?_; rintro e wy ⟨rfl, hbb⟩; refine ⟨?_, hbb⟩; rfl))); (exact rfl); (try simp only [Act.put, List.setIfInBounds_toArray, List.set_cons_zero, List.set_cons_succ])
        refine SeqT.tie rfl (by decide) rfl (fun wz hz hd => ?_) (fun v17 _ _ => ?_)
        · have HJ : Hid (OthJ w.heap.size w5.heap.size v L.length L [IntKind.u8.wrap ec, IntKind.u8.wrap NX, IntKind.u8.wrap WE] 17 (.slice (some ⟨wz.heap.size, 0, none⟩) 3 3) wz.heap.size (wz.heap.size + 1) (wz.alloc (.cells #[.int .u8 (IntKind.u8.wrap ec), .int .u8 (IntKind.u8.wrap NX), .int .u8 (IntKind.u8.wrap WE)] 5))) := Lib.hid ⟨_, rfl, Blk.new wz 5 [_, _, _]⟩
          clear hd hz
          go_simp
          exact UponT.value ⟨HJ.out, (Below.refl _ _).alloc (Nat.le_refl _) _⟩
        (try simp only [Act.put, List.setIfInBounds_toArray, List.set_cons_zero, List.set_cons_succ])
        refine SeqT.write rfl rfl rfl (fun wz hz hd => ?_) (fun v18 _ _ => ?_)
        · obtain ⟨g8, rfl, hk8⟩ := hd.all 17 (by decide) v17 _ _ rfl
          obtain ⟨v', w', hr, ho, hg, hat⟩ := run_append_sl (P := Try.prog) w.heap.size 45 45 5 i0 (.int .u8 0) 1 Try.underlying45 hif hz0 hz1 hz2 rfl v L.length (bv L) (own_below HO5.out ((Below.refl _ _).drew.trans (hz.2 rfl).below)) 0 (.slice (some ⟨g8, 0, none⟩) 3 3) _ (hk8.sl (Nat.zero_le _) (by simp [bv])) (oneCell_bv _) (by have := HLEN.out trivial; unfold maxLen; simp [bv]; omega) (by have := HLEN.out trivial; simp [bv]; omega) (by have := hz.1.size; omega)
          refine UponT.append _ _ _ _ _ _ rfl rfl rfl hr ⟨⟨by rw [bv_append]; exact ho, ?_⟩, grownBy_trans hz.1 hg, fun e => by (cases e)⟩
          rcases hat with hat | hat
          · exact .inl hat
          · exact .inr ⟨_, hat, hz.1.size⟩
        (try simp only [Act.put, List.setIfInBounds_toArray, List.set_cons_zero, List.set_cons_succ])
        intro wb hz hi
        obtain ⟨ho, hat⟩ := hi.all 18 v18 _ _ rfl
        have hAN : ∀ m, va.ownBlock = some m → w4.heap.size ≤ m ∧ m < w5.heap.size := fun m hm => HA5.out.lt m hm
        have hVN' : ∀ m, vb.ownBlock = some m → w4.heap.size ≤ m ∧ m < w5.heap.size := fun m hm => HV5.out.lt m hm
        have hneq : ∀ x : Value, (∀ m, x.ownBlock = some m → w4.heap.size ≤ m ∧ m < w5.heap.size) → x.ownBlock = none ∨ (x.ownBlock ≠ v.ownBlock ∧ x.ownBlock ≠ v18.ownBlock) := fun x hx => by
          cases hxb : x.ownBlock with
          | none => exact .inl rfl
          | some m =>
            have h1 := hx m hxb
            refine .inr ⟨fun e => ?_, fun e => ?_⟩
            · have := HVN.out m e.symm; omega
            · rcases hat with hat | ⟨m', hat, hm'⟩
              · have := HVN.out m (by rw [← hat]; exact e.symm); omega
              · rw [hat] at e
                have := Option.some.inj e
                omega
        have HOB : Hid (wb.ownsRow w.heap.size 5 1 v18 (L.length + 3) (bv (L ++ [IntKind.u8.wrap ec, IntKind.u8.wrap NX, IntKind.u8.wrap WE]))) := ho
        have HAB := Lib.hid (HA5.out.kept hz.1 ((hneq va hAN).imp id fun q => q.1))
        have HVB := Lib.hid (HV5.out.kept hz.1 ((hneq vb hVN').imp id fun q => q.1))
        have HVX := Lib.hid (hneq vb hVN')
        have HGB := Lib.hid (HG5.out.grown hz.1 (own_ne_blk HO5.out HG5.out (by decide)))
        have HBB := Lib.hid (HB5.out.grown hz.1 hs5 (fun m hm => (HVN.out m hm).1))
        clear hz hi ho hat hAN hVN' hneq s0 s1 hpl5 hne
        have hsb := HBB.out.size
        go_wp2_with (first
          | (at_builtin; go_must (refine wpList_append_sl wb rfl (.tmp 60) (.tmp 61) 45 rfl w.heap.size 5 i0 (.int .u8 0) 1 Try.underlying45 hif hz0 hz1 hz2 rfl v18 (L.length + 3) _ rfl HOB.out 0 va (bv xs) rfl (Sl.mono (Sl.of_own HAB.out (by rw [bv_length]; have := HRL.out.1; omega)) (Nat.zero_le _)) (oneCell_bv _) (by rw [bv_length]; have := HLEN.out trivial; have := HRL.out.1; unfold maxLen; omega) (by rw [bv_length]; have := HLEN.out trivial; have := HRL.out.1; omega) hsb ?K)))
        case K =>
          intro v6 w6 ho6 hg6
          have HO6 := Lib.hid ho6
          have HV6 := Lib.hid (HVB.out.kept hg6 (HVX.out.imp id fun q => q.2))
          have HG6 := Lib.hid (HGB.out.grown hg6 (own_ne_blk HOB.out HGB.out (by decide)))
          have HB6 := Lib.hid (HBB.out.grown hg6 hsb (fun m hm => (HOB.out.lt m hm).1))
          have hs6 := HB6.out.size
          clear ho6 hg6
          go_wp2_with (first
            | (at_builtin; go_must (refine wpList_append_sl w6 rfl (.tmp 62) (.tmp 63) 45 rfl w.heap.size 5 i0 (.int .u8 0) 1 Try.underlying45 hif hz0 hz1 hz2 rfl v6 _ _ rfl HO6.out 0 vb (bv ys) rfl (Sl.mono (Sl.of_own HV6.out (by rw [bv_length]; have := HRL.out.2; omega)) (Nat.zero_le _)) (oneCell_bv _) (by rw [bv_length, bv_length]; have := HLEN.out trivial; have := HRL.out; unfold maxLen; omega) (by rw [bv_length, bv_length]; have := HLEN.out trivial; have := HRL.out; omega) hs6 ?K)))
          case K =>
            intro v7 w7 ho7 hg7
            have HG7 := Lib.hid (HG6.out.grown hg7 (own_ne_blk HO6.out HG6.out (by decide)))
            have HB7 := Lib.hid (HB6.out.grown hg7 hs6 (fun m hm => (HO6.out.lt m hm).1))
            have HO7 : Hid (w7.ownsRow w.heap.size 5 1 v7 (othersL ⟨c, l, b, p, s⟩ S (k + 1)).length (bv (othersL ⟨c, l, b, p, s⟩ S (k + 1)))) := by
              show World.ownsRow _ _ _ _ _ _ _
              rw [HSTEP.out, bv_append, bv_append]
              simp only [List.length_append, List.length_cons, List.length_nil]
              simpa [bv_length] using ho7
            clear ho7 hg7
            go_wp2_with fail
            go_roundw
            case rel => exact ⟨k + 1, _, by have := HLT.out trivial; omega, rfl, by rw [HKC.out], HO7.out, HG7.out, HB7.out⟩
            case measure => have := HLT.out trivial; simp [intOf]; omega
    · obtain rfl : A = k := by omega
      have hstr := own_str (P := Try.prog) Try.underlying45 Try.underlying5 Try.underlying9 HO2.out (by have := othersL_len HI.out A; have := hA6 trivial; omega)
      go_wp2_with fail
      go_ret
      exact ⟨rfl, HB2.out⟩

end Go.Proofs.Ytlkapaecaeldpaa
