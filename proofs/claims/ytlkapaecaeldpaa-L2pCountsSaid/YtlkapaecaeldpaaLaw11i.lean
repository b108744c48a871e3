/-
  The walks of the laws over package l2p: L2pCounts.
-/
import Derived.Test.YtlkapaecaeldpaaL2pR
set_option linter.unusedVariables false
set_option linter.unusedSimpArgs false
set_option maxRecDepth 16384
namespace Go.Proofs.Ytlkapaecaeldpaa
open Go.RowKit

/-- what is known within the test of a sector's bit -/
def CountJ (t : TypeId) (M : Nat) (ys : List Int) (i : Nat) (v : Value) (lo hi : Nat) (w : World) : Prop :=
  match i with
  | 14 => ∃ b, w.ownsRow b t 1 v M (bv ys)
  | 20 => v = .bool true
  | 21 => v = .bool false
  | _ => True
theorem CountJ.keep {t : TypeId} {M : Nat} {ys : List Int} (i : Nat) (v : Value) (lo hi : Nat) (w w' : World) (h : CountJ t M ys i v lo hi w) (hs : Since w w') : CountJ t M ys i v lo hi w' := by
  unfold CountJ at *
  split at h
  · obtain ⟨b, h⟩ := h; exact ⟨b, own_below h hs⟩
  · exact h
  · exact h
  · trivial

set_option maxHeartbeats 4000000 in
theorem l2pCountsWalk (g : Geo) (n : Int) (a0 : Option Addr) (len0 cap0 : Nat) (w : World) (hg : g.Wf) (hn : (Lit.int .i64 n).wf = true) (w0 : IsOps w a0 len0 cap0) :
    Calls Try.prog 6 #[g.v, .int .i64 n, .slice a0 len0 cap0] w fun e w' => e = .returned (.bool true) ∧ Below w.heap.size w w' := by
  have HW := Lib.hid hg
  have HI := Lib.hid (wf_i64 hn)
  obtain ⟨hll, hls⟩ := w0
  have HL := Lib.hid hls
  clear hg hls hn
  obtain ⟨c, l, b, p, s⟩ := g
  have HG := Lib.hid (Blk.new w 23 [.int .i64 c, .int .i64 l, .int .i64 b, .int .i64 p, .int .i64 s])
  unfold Geo.v
  go_enter Try.func6, Try.ntmps6
  (go_wp2_with fail); refine (awake11_any _).mono ?_
  rintro e w1 ⟨rfl, hb⟩
  have hk := HG.out.below hb; have k0 : w1.cell? ⟨w.heap.size, 0, none⟩ = some (.int .i64 c) := hk.cell 0; have k1 : w1.cell? ⟨w.heap.size, 1, none⟩ = some (.int .i64 l) := hk.cell 1; have k2 : w1.cell? ⟨w.heap.size, 2, none⟩ = some (.int .i64 b) := hk.cell 2; have k3 : w1.cell? ⟨w.heap.size, 3, none⟩ = some (.int .i64 p) := hk.cell 3; have k4 : w1.cell? ⟨w.heap.size, 4, none⟩ = some (.int .i64 s) := hk.cell 4; have hltk := hk.lt
  have HG1 := Lib.hid hk
  have HB1 := Lib.hid (((Below.refl w.heap.size w).alloc (Nat.le_refl _) _).trans (hb.mono (by simp)))
  clear hb hk
  (go_wp2_with fail); refine (l2pNew_any ⟨c, l, b, p, s⟩ n _ HW.out HI.out).mono ?_
  intro e w2 hp
  by_cases hno : newOk ⟨c, l, b, p, s⟩ n = true
  · obtain ⟨hb, m, kt, kw, vb, st', sw, rfl, hm⟩ := newPost_ok hp hno
    have HM2 := Lib.hid hm
    have HG2 := Lib.hid (HG1.out.below hb)
    have HB2 := Lib.hid (HB1.out.trans (hb.mono HB1.out.size))
    have HB2s := HB1.out.size
    have hGB : w.heap.size < w1.heap.size := hltk
    have HOK := Lib.hid hm.ok
    have hn1 : 1 ≤ n ∧ n ≤ 4096 := by
      unfold newOk at hno
      rw [decide_eq_true_eq] at hno
      exact ⟨hno.2.1, hno.2.2.1⟩
    obtain ⟨hn1, hn2⟩ := hn1
    obtain ⟨N, rfl⟩ : ∃ N : Nat, n = N := ⟨n.toNat, by omega⟩
    generalize hBB : w1.heap.size = B at HM2 hGB HB2s
    generalize hCC2 : w2.heap.size = C at HM2
    have HM2' : Hid (MapAt w2 B C m ⟨c, l, b, p, s⟩ (List.replicate N Ent.none) kt kw vb st' sw) := HM2
    clear hp hm hb hno k0 k1 k2 k3 k4 hltk HG HG1 HM2
    obtain ⟨L, hL, hL1, hL2⟩ := Geo.line_nat HOK.out
    have HLN : Hid (∀ wy, Calls Try.prog 40 #[Geo.v ⟨c, l, b, p, s⟩] wy fun e w' => e = .returned (.int .i64 L) ∧ Below wy.heap.size wy w') := by
      intro wy
      have := geomLine_ok ⟨c, l, b, p, s⟩ HOK.out wy
      rwa [hL] at this
    have HLL := Lib.hid hL
    have hbl := (Geo.ok_of HOK.out).b
    simp only at hbl
    obtain ⟨bl, rfl⟩ : ∃ bl : Nat, b = bl := ⟨b.toNat, by omega⟩
    clear hL
    unfold Geo.v at HLN
    by_cases h200 : (200 : Int) < N
    · go_wp2_with fail
      go_ret
      exact ⟨rfl, HB2.out⟩
    go_wp2_with fail
    go_loopw [10] (fun t wr => ∃ (k : Nat) (to : List Ent), k ≤ len0 ∧ t = .int .i64 k ∧ to.length = N ∧ Hid (Unset to) ∧ Hid (MapAt wr B C m ⟨c, l, bl, p, s⟩ to kt kw vb st' sw) ∧ Hid (Blk wr w.heap.size 23 [.int .i64 c, .int .i64 l, .int .i64 bl, .int .i64 p, .int .i64 s]) ∧ Hid (Below w.heap.size w wr)) (fun t _ => ((len0 : Int) - intOf t).toNat)
    case atStart => exact ⟨0, _, by omega, rfl, by simp, Unset.new N, HM2'.out, HG2.out, HB2.out⟩
    case round =>
      obtain ⟨k, to, hkl, rfl, hto, HUr, HMr, HGr, HBr⟩ := hrel
      by_cases hgo : k < len0 ∧ k < 100
      · obtain ⟨hlt, hk60⟩ := hgo
        obtain ⟨ab, off, rfl, habl, F, hF⟩ := HL.out (by omega)
        have hc := hF k hlt
        generalize F k = ov at hc
        obtain ⟨d, lba, f, t, ea, es, ek⟩ := ov
        have cell : ∀ j v, (OpV.l ⟨d, lba, f, t, ea, es, ek⟩)[j]? = some v → j < 7 → wr.cell? ⟨ab, off + k * 7 + j, none⟩ = some v := fun j v hv hj => by
          rw [HBr.out.cell (p := ⟨ab, off + k * 7 + j, none⟩) habl, hc j hj, hv]
        have c0 : wr.cell? ⟨ab, off + k * 7, none⟩ = some (.int .i64 d) := cell 0 _ rfl (by decide)
        have c1 : wr.cell? ⟨ab, off + k * 7 + 1, none⟩ = some (.int .i64 lba) := cell 1 _ rfl (by decide)
        have c2 : wr.cell? ⟨ab, off + k * 7 + 2, none⟩ = some (.int .i64 f) := cell 2 _ rfl (by decide)
        have c3 : wr.cell? ⟨ab, off + k * 7 + 3, none⟩ = some (.int .i64 t) := cell 3 _ rfl (by decide)
        have c4 : wr.cell? ⟨ab, off + k * 7 + 4, none⟩ = some (.int .i64 ea) := cell 4 _ rfl (by decide)
        have c5 : wr.cell? ⟨ab, off + k * 7 + 5, none⟩ = some (.int .i64 es) := cell 5 _ rfl (by decide)
        have c6 : wr.cell? ⟨ab, off + k * 7 + 6, none⟩ = some (.int .i64 ek) := cell 6 _ rfl (by decide)
        clear cell hc hF
        have hk0 : (0 : Int) ≤ k := by omega
        have hkl2 : (k : Int) < len0 := by omega
        by_cases hd4 : d = 0 ∨ d = 1 ∨ d = 2 ∨ d = 3
        · have HLEN := Lib.hid ((setTo_len ⟨c, l, bl, p, s⟩ to lba ⟨ea, es, ek⟩).trans hto)
          have HU2 := Lib.hid (HUr.out.setTo (g := ⟨c, l, bl, p, s⟩) lba ⟨ea, es, ek⟩)
          rcases hd4 with rfl | rfl | rfl | rfl
          all_goals
            go_wp2_with fail
            refine wp_region_b 11 (by kernel_rfl) (by kernel_rfl) ?_
            simp only [List.take_succ_cons, List.take_zero, List.drop_succ_cons, List.drop_zero]
            repeat (first
              | (refine SeqC.run (v := ?_) ?_ (fun wz hz => ?_) ?_; rotate_left; (· rfl); (· have hzc := hz.cell; have hzf := hz.frozen; go_simp; first | exact UponS.value hz | exact UponS.skip hz | (refine UponS.call ?_; fail)); (try simp only [Act.put, List.setIfInBounds_toArray, List.set_cons_zero, List.set_cons_succ]))
              | (refine SeqC.skip ?_ ?_; (· rfl); (try simp only [Act.put, List.setIfInBounds_toArray, List.set_cons_zero, List.set_cons_succ])))
            refine fun wz hz => ?_
            have hzM := HMr.out.sinceD hz
            (go_wp2_with fail); refine (mapSet_any hzM lba ⟨ea, es, ek⟩).mono ?_
            intro e2 w3 hp
            obtain ⟨e2, hm2, ho2⟩ := hp
            subst e2
            have HM3 := Lib.hid hm2
            have HG3 := Lib.hid ((HGr.out.since hz).only ho2 (.inl hGB))
            have HB3 := Lib.hid ((HBr.out.drew.trans (hz.below.mono HBr.out.size)).trans (ho2.below HB2s (HBr.out.drew.trans (hz.below.mono HBr.out.size)).size))
            clear hm2 ho2 hz hzM
            go_wp2_with fail
            go_roundw
            case rel => exact ⟨k + 1, _, by omega, by go_num, HLEN.out, HU2.out, HM3.out, HG3.out, HB3.out⟩
            case measure => simp [intOf]; omega
        · by_cases hd5 : d = 4 ∨ d = 5
          · have HLEN := Lib.hid ((moveTo_len ⟨c, l, bl, p, s⟩ to lba f t).trans hto)
            have HU2 := Lib.hid (HUr.out.moveTo (g := ⟨c, l, bl, p, s⟩) lba f t)
            clear hd4
            rcases hd5 with rfl | rfl
            all_goals
              go_wp2_with fail
              refine wp_region_b 16 (by kernel_rfl) (by kernel_rfl) ?_
              simp only [List.take_succ_cons, List.take_zero, List.drop_succ_cons, List.drop_zero]
              repeat (first
                | (refine SeqC.run (v := ?_) ?_ (fun wz hz => ?_) ?_; rotate_left; (· rfl); (· have hzc := hz.cell; have hzf := hz.frozen; go_simp; first | exact UponS.value hz | exact UponS.skip hz | (refine UponS.call ?_; fail)); (try simp only [Act.put, List.setIfInBounds_toArray, List.set_cons_zero, List.set_cons_succ]))
                | (refine SeqC.skip ?_ ?_; (· rfl); (try simp only [Act.put, List.setIfInBounds_toArray, List.set_cons_zero, List.set_cons_succ])))
              refine fun wz hz => ?_
              have hzM := HMr.out.sinceD hz
              (go_wp2_with fail); refine (mapMove_any hzM lba f t).mono ?_
              intro e2 w3 hp
              obtain ⟨e2, hm2, ho2⟩ := hp
              subst e2
              have HM3 := Lib.hid hm2
              have HG3 := Lib.hid ((HGr.out.since hz).only ho2 (.inl hGB))
              have HB3 := Lib.hid ((HBr.out.drew.trans (hz.below.mono HBr.out.size)).trans (ho2.below HB2s (HBr.out.drew.trans (hz.below.mono HBr.out.size)).size))
              clear hm2 ho2 hz hzM
              go_wp2_with fail
              go_roundw
              case rel => exact ⟨k + 1, _, by omega, by go_num, HLEN.out, HU2.out, HM3.out, HG3.out, HB3.out⟩
              case measure => simp [intOf]; omega
          · have e0 : (d == 0) = false := by rw [beq_eq_false_iff_ne]; omega
            have e1 : (d == 1) = false := by rw [beq_eq_false_iff_ne]; omega
            have e2 : (d == 2) = false := by rw [beq_eq_false_iff_ne]; omega
            have e3 : (d == 3) = false := by rw [beq_eq_false_iff_ne]; omega
            have e4 : (d == 4) = false := by rw [beq_eq_false_iff_ne]; omega
            have e5 : (d == 5) = false := by rw [beq_eq_false_iff_ne]; omega
            clear hd4 hd5
            go_wp2_with fail
            go_roundw
            case rel => exact ⟨k + 1, to, by omega, by go_num, hto, HUr.out, HMr.out, HGr.out, HBr.out⟩
            case measure => simp [intOf]; omega
      · have hex : ¬ k < len0 ∨ (k < len0 ∧ ¬ k < 100) := by omega
        clear hgo
        rcases hex with h1 | ⟨h1, h2⟩
        all_goals
          have HLE : Hid (∀ i, manyN (to.take i) ≤ 4096) := fun i => Nat.le_trans List.countP_le_length (by rw [List.length_take]; omega)
          have HTK := Lib.hid (fun (i : Nat) (e : Ent) (he : to[i]? = some e) => manyN_take he)
          have HZ : Hid (manyN (to.take 0) = 0) := by show manyN (to.take 0) = 0; rw [List.take_zero]; rfl
          have HTO := Lib.hid hto
          have HGRr := HGr
          clear HM2' HG2 HB2 hto
          go_wp2_with fail
          go_loopw [11, 12] (fun mv t wr => ∃ i : Nat, i ≤ N ∧ t = .int .i64 i ∧ mv = .int .i64 (manyN (to.take i) : Nat) ∧ Hid (MapAt wr B C m ⟨c, l, bl, p, s⟩ to kt kw vb st' sw) ∧ Hid (Blk wr w.heap.size 23 [.int .i64 c, .int .i64 l, .int .i64 bl, .int .i64 p, .int .i64 s]) ∧ Hid (Below w.heap.size w wr)) (fun _ t _ => ((N : Int) - intOf t).toNat)
          case atStart => exact ⟨0, Nat.zero_le _, rfl, by rw [HZ.out]; rfl, HMr.out, HGr.out, HBr.out⟩
          case round =>
            clear HMr HGr HBr
            obtain ⟨i, hi, rfl, rfl, HMr, HGr, HBr⟩ := hrel
            by_cases hlt2 : i < N
            · obtain ⟨x, hx⟩ : ∃ x, to[i]? = some x := ⟨_, List.getElem?_eq_getElem (by rw [HTO.out]; exact hlt2)⟩
              have hst := HTK.out i x hx
              have hle := HLE.out i
              have HX := Lib.hid hx
              (go_wp2_with fail); refine (mapGet_any HMr.out i x hx).mono ?_
              rintro e w3 ⟨rfl, hb⟩
              have hgx := HUr.out x (List.mem_of_getElem? hx)
              have hlv := live_of (g := ⟨c, l, bl, p, s⟩) HMr.out.fine hx
              have hon := lineBits_on (g := ⟨c, l, bl, p, s⟩) HOK.out HMr.out.fine hx
              have hin := HMr.out.fine.in_ x (List.mem_of_getElem? hx)
              rw [HLL.out] at hon
              obtain ⟨K, hK⟩ : ∃ K, manyN (to.take i) = K := ⟨_, rfl⟩
              rw [hK] at hst hle ⊢
              obtain ⟨xa, xs, xk⟩ := x
              simp only [Ent.v] at hst hlv hon hgx hin ⊢
              have hbx : Below w3.heap.size w3 (w3.alloc (.cells #[.int .i64 xa, .int .i64 xs, .int .i64 xk] 32)) := (Below.refl w3.heap.size w3).alloc (Nat.le_refl _) _
              have HM3 := Lib.hid ((HMr.out.below hb).below hbx)
              have HG3 := Lib.hid ((HGr.out.below hb).below hbx)
              have HB3 := Lib.hid ((HBr.out.trans (hb.mono HBr.out.size)).trans (hbx.mono (HBr.out.trans (hb.mono HBr.out.size)).size))
              have HX3 := Lib.hid (Blk.new w3 32 [.int .i64 xa, .int .i64 xs, .int .i64 xk])
              have HST := Lib.hid hst
              have hi0 : (0 : Int) ≤ i := by omega
              clear hb hbx hx hK hst
              by_cases hneg : xa < 0
              · have he := hgx hneg
                injection he with q1 q2 q3
                subst q1 q2 q3
                have hst2 := HST.out
                rw [if_neg (by decide)] at hst2
                have HS2 := Lib.hid hst2
                clear hst2 HST hgx hlv hon hin hneg
                go_wp2_with fail
                go_roundw
                case rel => exact ⟨i + 1, by omega, by go_num, by rw [HS2.out]; simp, HM3.out, HG3.out, HB3.out⟩
                case measure => simp [intOf]; omega
              · have hx0 : 0 ≤ xa := by omega
                obtain ⟨hl1, hl2⟩ := hlv hx0
                have hon2 := hon hx0
                have hst2 := HST.out
                rw [if_pos hx0] at hst2
                have HS2 := Lib.hid hst2
                have hA9 : Geo.all ⟨c, l, bl, p, s⟩ ≤ 65536 := by
                  have hgo := Geo.ok_of HOK.out
                  obtain ⟨m1, m2, m3, m4, m5', m6, m7, m8, m9, m10⟩ := geo_mul hgo.c.1 hgo.c.2 hgo.l.1 hgo.l.2 hgo.b.1 hgo.b.2 hgo.p.1 hgo.p.2 hgo.s.1 hgo.s.2
                  exact m8
                have hL0 : ¬ (L : Int) = 0 := by omega
                have hLn : ¬ L = 0 := by omega
                have hLb : ((L : Int) == 0) = false := beq_eq_false_iff_ne.2 hL0
                have htd : xa.tdiv (L : Int) = xa / L := Int.tdiv_eq_ediv_of_nonneg hx0
                have htm : xa.tmod (L : Int) = xa % L := Int.tmod_eq_emod_of_nonneg hx0
                have hd1 := Int.ediv_nonneg hx0 (show (0 : Int) ≤ L by omega)
                have hd2 := Int.ediv_le_self (L : Int) hx0
                have hm1 := Int.emod_nonneg xa hL0
                have hm2 := Int.emod_lt_of_pos xa (show (0 : Int) < L by omega)
                have hx9 : xa < 65536 := by omega
                have hw1 : IntKind.i64.wrap (xa / L) = xa / L := wrap_in _ ⟨by omega, by omega⟩
                have hw2 : IntKind.i64.wrap (xa % L) = xa % L := wrap_in _ ⟨by omega, by omega⟩
                have hwk : IntKind.i64.wrap ((K : Int) + 1) = (K : Int) + 1 := wrap_in _ ⟨by omega, by omega⟩
                obtain ⟨Q, hQ⟩ : ∃ Q, xa / (L : Int) = Q := ⟨_, rfl⟩
                obtain ⟨Z, hZ⟩ : ∃ Z, xa % (L : Int) = Z := ⟨_, rfl⟩
                rw [hQ] at htd hw1 hon2 hd1 hd2
                rw [hZ] at htm hw2 hon2 hm1 hm2
                have hM9 := lineBits_length ⟨c, l, bl, p, s⟩ to Q
                have hYB := lineBits_isB ⟨c, l, bl, p, s⟩ to Q
                obtain ⟨ys, hys⟩ : ∃ x, lineBits ⟨c, l, bl, p, s⟩ to Q = x := ⟨_, rfl⟩
                have HYS := Lib.hid hys
                rw [hys] at hM9 hon2 hYB
                obtain ⟨M, hM⟩ : ∃ M, ys.length = M := ⟨_, rfl⟩
                have HMM := Lib.hid hM
                rw [hM] at hM9
                have HON := Lib.hid hon2
                have HYB := Lib.hid hYB
                clear hQ hZ hys hM hon hon2 hlv hst2 HST hgx hin hneg hA9 hYB
                have hg3 := HG3.out
                (go_wp2_with fail); refine (mapLive_any HM3.out xa).mono ?_
                rintro e w4 ⟨rfl, hb⟩
                rw [hl1, hl2]
                have hgx := HG3.out.below hb
                have hxx := HX3.out.below hb
                have k0 : w4.cell? ⟨w.heap.size, 0, none⟩ = some (.int .i64 c) := hgx.cell 0
                have k1 : w4.cell? ⟨w.heap.size, 1, none⟩ = some (.int .i64 l) := hgx.cell 1
                have k2 : w4.cell? ⟨w.heap.size, 2, none⟩ = some (.int .i64 bl) := hgx.cell 2
                have k3 : w4.cell? ⟨w.heap.size, 3, none⟩ = some (.int .i64 p) := hgx.cell 3
                have k4 : w4.cell? ⟨w.heap.size, 4, none⟩ = some (.int .i64 s) := hgx.cell 4
                have x0 : w4.cell? ⟨w3.heap.size, 0, none⟩ = some (.int .i64 xa) := hxx.cell 0
                have x1 : w4.cell? ⟨w3.heap.size, 1, none⟩ = some (.int .i64 xs) := hxx.cell 1
                have x2 : w4.cell? ⟨w3.heap.size, 2, none⟩ = some (.int .i64 xk) := hxx.cell 2
                have hgl := hgx.lt
                have hxl := hxx.lt
                have HM4 := Lib.hid (HM3.out.below hb)
                have HG4 := Lib.hid hgx
                have HB4 := Lib.hid (HB3.out.trans (hb.mono HB3.out.size))
                clear hg3 hgx hxx hb hl1 hl2
                generalize w3.heap.size = xb at x0 x1 x2 hxl ⊢
                go_wp2_with fail
                refine wp_region_t 22 [(14, []), (20, [14]), (21, [20])] 23 (CountJ 5 M ys) [?_, ?_, ?_, ?_, ?_, ?_, ?_, ?_, ?_, ?_, ?_, ?_, ?_, ?_, undef, ?_, ?_, ?_, ?_, ?_, undef, undef] (by kernel_rfl) (by kernel_rfl) (by kernel_rfl) CountJ.keep ?_
                rotate_left 19
                simp only [List.take_succ_cons, List.take_zero, List.drop_succ_cons, List.drop_zero]
                refine SeqT.run (v := ?_) rfl rfl (fun _ wz hz => ?_) ?_ ?_; rotate_left; (have hzc := hz.cell; have hzf := hz.frozen; go_simp; first | exact UponS.value (Since.refl _) | exact UponS.skip (Since.refl _)); (exact rfl); (try simp only [Act.put, List.setIfInBounds_toArray, List.set_cons_zero, List.set_cons_succ])
                refine SeqT.run (v := ?_) rfl rfl (fun _ wz hz => ?_) ?_ ?_; rotate_left; (have hzc := hz.cell; have hzf := hz.frozen; go_simp; first | exact UponS.value (Since.refl _) | exact UponS.skip (Since.refl _)); (exact rfl); (try simp only [Act.put, List.setIfInBounds_toArray, List.set_cons_zero, List.set_cons_succ])
                refine SeqT.run (v := ?_) rfl rfl (fun _ wz hz => ?_) ?_ ?_; rotate_left; (have hzc := hz.cell; have hzf := hz.frozen; go_simp; first | exact UponS.value (Since.refl _) | exact UponS.skip (Since.refl _)); (exact rfl); (try simp only [Act.put, List.setIfInBounds_toArray, List.set_cons_zero, List.set_cons_succ])
                refine SeqT.run (v := ?_) rfl rfl (fun _ wz hz => ?_) ?_ ?_; rotate_left; (have hzc := hz.cell; have hzf := hz.frozen; go_simp; first | exact UponS.value (Since.refl _) | exact UponS.skip (Since.refl _)); (exact rfl); (try simp only [Act.put, List.setIfInBounds_toArray, List.set_cons_zero, List.set_cons_succ])
                refine SeqT.run (v := ?_) rfl rfl (fun _ wz hz => ?_) ?_ ?_; rotate_left; (have hzc := hz.cell; have hzf := hz.frozen; go_simp; first | exact UponS.value (Since.refl _) | exact UponS.skip (Since.refl _)); (exact rfl); (try simp only [Act.put, List.setIfInBounds_toArray, List.set_cons_zero, List.set_cons_succ])
                refine SeqT.run (v := ?_) rfl rfl (fun _ wz hz => ?_) ?_ ?_; rotate_left; (have hzc := hz.cell; have hzf := hz.frozen; go_simp; first | exact UponS.value (Since.refl _) | exact UponS.skip (Since.refl _)); (exact rfl); (try simp only [Act.put, List.setIfInBounds_toArray, List.set_cons_zero, List.set_cons_succ])
                refine SeqT.run (v := ?_) rfl rfl (fun _ wz hz => ?_) ?_ ?_; rotate_left; (have hzc := hz.cell; have hzf := hz.frozen; go_simp; first | exact UponS.value (Since.refl _) | exact UponS.skip (Since.refl _)); (exact rfl); (try simp only [Act.put, List.setIfInBounds_toArray, List.set_cons_zero, List.set_cons_succ])
                refine SeqT.run (v := ?_) rfl rfl (fun _ wz hz => ?_) ?_ ?_; rotate_left; (have hzc := hz.cell; have hzf := hz.frozen; go_simp; first | exact UponS.value (Since.refl _) | exact UponS.skip (Since.refl _)); (exact rfl); (try simp only [Act.put, List.setIfInBounds_toArray, List.set_cons_zero, List.set_cons_succ])
                refine SeqT.run (v := ?_) rfl rfl (fun _ wz hz => ?_) ?_ ?_; rotate_left; (have hzc := hz.cell; have hzf := hz.frozen; go_simp; first | exact UponS.value (Since.refl _) | exact UponS.skip (Since.refl _)); (exact rfl); (try simp only [Act.put, List.setIfInBounds_toArray, List.set_cons_zero, List.set_cons_succ])
                refine SeqT.run (v := ?_) rfl rfl (fun _ wz hz => ?_) ?_ ?_; rotate_left; (have hzc := hz.cell; have hzf := hz.frozen; go_simp; first | exact UponS.value (Since.refl _) | exact UponS.skip (Since.refl _)); (exact rfl); (try simp only [Act.put, List.setIfInBounds_toArray, List.set_cons_zero, List.set_cons_succ])
                refine SeqT.run (v := ?_) rfl rfl (fun _ wz hz => ?_) ?_ ?_; rotate_left; (have hzc := hz.cell; have hzf := hz.frozen; go_simp; first | exact UponS.value (Since.refl _) | exact UponS.skip (Since.refl _)); (exact rfl); (try simp only [Act.put, List.setIfInBounds_toArray, List.set_cons_zero, List.set_cons_succ])
                refine SeqT.run (v := ?_) rfl rfl (fun _ wz hz => ?_) ?_ ?_; rotate_left; (have hzc := hz.cell; have hzf := hz.frozen; go_simp; first | exact UponS.value (Since.refl _) | exact UponS.skip (Since.refl _)); (exact rfl); (try simp only [Act.put, List.setIfInBounds_toArray, List.set_cons_zero, List.set_cons_succ])
                refine SeqT.run (v := ?_) rfl rfl (fun _ wz hz => ?_) ?_ ?_; rotate_left; (have hzc := hz.cell; have hzf := hz.frozen; go_simp; refine UponS.call ?_; go_at_call 40; refine (HLN.out _).mono ?_; rintro e wy ⟨rfl, hb⟩; refine ⟨?_, hb⟩; rfl); (exact rfl); (try simp only [Act.put, List.setIfInBounds_toArray, List.set_cons_zero, List.set_cons_succ])
                refine SeqT.run (v := ?_) rfl rfl (fun _ wz hz => ?_) ?_ ?_; rotate_left; (have hzc := hz.cell; have hzf := hz.frozen; go_simp; first | exact UponS.value (Since.refl _) | exact UponS.skip (Since.refl _)); (exact rfl); (try simp only [Act.put, List.setIfInBounds_toArray, List.set_cons_zero, List.set_cons_succ])
                refine SeqT.tie rfl (by decide) rfl (fun wz hz hd => ?_) (fun v14 _ _ => ?_)
                · have hzc := hz.cell
                  go_simp
                  refine UponT.call ?_
                  go_at_call 39
                  refine (mapBitsAll_any (HM4.out.sinceD hz) Q).mono ?_
                  rintro e wy ⟨u, rfl, ho, hb⟩
                  rw [HYS.out, HMM.out] at ho
                  exact ⟨u, rfl, ⟨_, ho⟩, hb⟩
                (try simp only [Act.put, List.setIfInBounds_toArray, List.set_cons_zero, List.set_cons_succ])
                refine SeqT.run (v := ?_) rfl rfl (fun _ wz hz => ?_) ?_ ?_; rotate_left; (have hzc := hz.cell; have hzf := hz.frozen; go_simp; first | exact UponS.value (Since.refl _) | exact UponS.skip (Since.refl _)); (exact rfl); (try simp only [Act.put, List.setIfInBounds_toArray, List.set_cons_zero, List.set_cons_succ])
                refine SeqT.run (v := ?_) rfl rfl (fun _ wz hz => ?_) ?_ ?_; rotate_left; (have hzc := hz.cell; have hzf := hz.frozen; go_simp; first | exact UponS.value (Since.refl _) | exact UponS.skip (Since.refl _)); (exact rfl); (try simp only [Act.put, List.setIfInBounds_toArray, List.set_cons_zero, List.set_cons_succ])
                refine SeqT.run (v := ?_) rfl rfl (fun _ wz hz => ?_) ?_ ?_; rotate_left; (have hzc := hz.cell; have hzf := hz.frozen; go_simp; first | exact UponS.value (Since.refl _) | exact UponS.skip (Since.refl _)); (exact rfl); (try simp only [Act.put, List.setIfInBounds_toArray, List.set_cons_zero, List.set_cons_succ])
                refine SeqT.run (v := ?_) rfl rfl (fun _ wz hz => ?_) ?_ ?_; rotate_left; (have hzc := hz.cell; have hzf := hz.frozen; go_simp; refine UponS.call ?_; go_at_call 40; refine (HLN.out _).mono ?_; rintro e wy ⟨rfl, hb⟩; refine ⟨?_, hb⟩; rfl); (exact rfl); (try simp only [Act.put, List.setIfInBounds_toArray, List.set_cons_zero, List.set_cons_succ])
                refine SeqT.run (v := ?_) rfl rfl (fun _ wz hz => ?_) ?_ ?_; rotate_left; (have hzc := hz.cell; have hzf := hz.frozen; go_simp; first | exact UponS.value (Since.refl _) | exact UponS.skip (Since.refl _)); (exact rfl); (try simp only [Act.put, List.setIfInBounds_toArray, List.set_cons_zero, List.set_cons_succ])
                refine SeqT.tie rfl (by decide) rfl (fun wz hz hd => ?_) (fun v20 _ _ => ?_)
                · obtain ⟨bs, ho⟩ := hd.all 14 (by decide) v14 _ _ rfl
                  have hzc := hz.cell
                  go_simp
                  refine UponT.call ?_
                  go_at_call 38
                  refine (bitsGet_any _ ys Z _ (Sl.mono (Sl.of_own ho (by rw [bv_length, HMM.out]; omega)) (Nat.zero_le _)) HYB.out ⟨by omega, by omega⟩).mono ?_
                  rintro e wy ⟨rfl, rfl⟩
                  exact ⟨_, rfl, by show Value.bool _ = _; rw [HON.out], Since.refl _⟩
                (try simp only [Act.put, List.setIfInBounds_toArray, List.set_cons_zero, List.set_cons_succ])
                refine SeqT.tie rfl (by decide) rfl (fun wz hz hd => ?_) (fun v21 _ _ => ?_)
                · obtain rfl : v20 = .bool true := hd.all 20 (by decide) v20 _ _ rfl
                  go_simp
                  exact UponT.value ⟨rfl, Since.refl _⟩
                (try simp only [Act.put, List.setIfInBounds_toArray, List.set_cons_zero, List.set_cons_succ])
                intro wz hz hi'
                obtain rfl : v21 = .bool false := hi'.all 21 v21 _ _ rfl
                have HM5 := Lib.hid (HM4.out.sinceD hz)
                have HG5 := Lib.hid (HG4.out.since hz)
                have HB5 := Lib.hid (HB4.out.drew.trans (hz.below.mono HB4.out.size))
                clear hz hi'
                go_wp2_with fail
                go_roundw
                case rel => exact ⟨i + 1, by omega, by go_num, by rw [HS2.out]; simp, HM5.out, HG5.out, HB5.out⟩
                case measure => simp [intOf]; omega
            · obtain rfl : i = N := by omega
              have hall : manyN (to.take i) = manyN to := by rw [← HTO.out, List.take_length]
              have hml := HLE.out i
              have hsum := sumV_all HOK.out HMr.out.fine
              rw [hall] at hml ⊢
              have HSM : Hid (sumV (Geo.line ⟨c, l, bl, p, s⟩) to bl = manyN to) := hsum
              have HSL : Hid (∀ j, sumV (Geo.line ⟨c, l, bl, p, s⟩) to j ≤ 4096) := fun j => Nat.le_trans (sumV_le _ _ _) (by rw [HTO.out]; omega)
              have HSZ : Hid (sumV (Geo.line ⟨c, l, bl, p, s⟩) to 0 = 0) := sumV_zero _ (by rw [HLL.out]; omega) _
              have HSS := Lib.hid (sumV_succ (Geo.line ⟨c, l, bl, p, s⟩) to)
              clear hall hsum
              obtain ⟨K, hK⟩ : ∃ K, manyN to = K := ⟨_, rfl⟩
              have HK := Lib.hid hK
              rw [hK] at hml HSM ⊢
              clear hK
              go_wp2_with fail
              go_loopw [17, 18] (fun av t wr => ∃ j : Nat, j ≤ bl ∧ t = .int .i64 j ∧ av = .int .i64 (sumV (Geo.line ⟨c, l, bl, p, s⟩) to j : Nat) ∧ Hid (MapAt wr B C m ⟨c, l, bl, p, s⟩ to kt kw vb st' sw) ∧ Hid (Blk wr w.heap.size 23 [.int .i64 c, .int .i64 l, .int .i64 bl, .int .i64 p, .int .i64 s]) ∧ Hid (Below w.heap.size w wr)) (fun _ t _ => ((bl : Int) - intOf t).toNat)
              case atStart => exact ⟨0, Nat.zero_le _, rfl, by rw [HSZ.out]; rfl, HMr.out, HGr.out, HBr.out⟩
              case round =>
                clear HMr HGr HBr
                obtain ⟨j, hj, rfl, rfl, HMr, HGr, HBr⟩ := hrel
                have hgx := HGr.out
                have k0 : wr.cell? ⟨w.heap.size, 0, none⟩ = some (.int .i64 c) := hgx.cell 0
                have k1 : wr.cell? ⟨w.heap.size, 1, none⟩ = some (.int .i64 l) := hgx.cell 1
                have k2 : wr.cell? ⟨w.heap.size, 2, none⟩ = some (.int .i64 bl) := hgx.cell 2
                have k3 : wr.cell? ⟨w.heap.size, 3, none⟩ = some (.int .i64 p) := hgx.cell 3
                have k4 : wr.cell? ⟨w.heap.size, 4, none⟩ = some (.int .i64 s) := hgx.cell 4
                have hgl := hgx.lt
                clear hgx
                by_cases hlt3 : j < bl
                · have hj0 : (0 : Int) ≤ j := by omega
                  have hss := HSS.out j
                  have hsl := HSL.out j
                  have hright := lineBits_right (to := to) HOK.out (l := j) ⟨by omega, by simp only; omega⟩
                  have hcount := lineBits_count HOK.out HMr.out.fine j
                  have hval : lineValid ⟨c, l, bl, p, s⟩ to j = (validN (Geo.line ⟨c, l, bl, p, s⟩) to j : Nat) := by
                    unfold lineValid
                    rw [if_pos ⟨by omega, by simp only; omega⟩]
                    simp
                  have hVL := validN_le (Geo.line ⟨c, l, bl, p, s⟩) to j
                  rw [HTO.out] at hVL
                  rw [HLL.out] at hright
                  rw [hval] at hcount
                  obtain ⟨V, hV⟩ : ∃ V, validN (Geo.line ⟨c, l, bl, p, s⟩) to j = V := ⟨_, rfl⟩
                  obtain ⟨S, hS⟩ : ∃ S, sumV (Geo.line ⟨c, l, bl, p, s⟩) to j = S := ⟨_, rfl⟩
                  rw [hV] at hss hval hcount hVL
                  rw [hS] at hss hsl ⊢
                  have hM9 := lineBits_length ⟨c, l, bl, p, s⟩ to j
                  have hYB := lineBits_isB ⟨c, l, bl, p, s⟩ to j
                  obtain ⟨ys, hys⟩ : ∃ x, lineBits ⟨c, l, bl, p, s⟩ to j = x := ⟨_, rfl⟩
                  have HYS := Lib.hid hys
                  rw [hys] at hM9 hright hcount hYB
                  have HVAL := Lib.hid hval
                  have HRT := Lib.hid hright
                  have HCT := Lib.hid hcount
                  have HYB := Lib.hid hYB
                  have HSS2 := Lib.hid hss
                  have hwv : IntKind.i64.wrap ((S : Int) + (V : Int)) = (S : Int) + V := wrap_in _ ⟨by omega, by omega⟩
                  clear hys hright hcount hval hYB hV hS hss
                  (go_wp2_with fail); refine (mapBitsAll_any HMr.out j).mono ?_
                  rintro e w3 ⟨u, rfl, ho, hb⟩
                  rw [HYS.out] at ho
                  obtain ⟨ua, uc, rfl⟩ := own_slice ho
                  have HO3 := Lib.hid ho
                  have HM3 := Lib.hid (HMr.out.below hb)
                  have hgx := HGr.out.below hb
                  have k0 : w3.cell? ⟨w.heap.size, 0, none⟩ = some (.int .i64 c) := hgx.cell 0
                  have k1 : w3.cell? ⟨w.heap.size, 1, none⟩ = some (.int .i64 l) := hgx.cell 1
                  have k2 : w3.cell? ⟨w.heap.size, 2, none⟩ = some (.int .i64 bl) := hgx.cell 2
                  have k3 : w3.cell? ⟨w.heap.size, 3, none⟩ = some (.int .i64 p) := hgx.cell 3
                  have k4 : w3.cell? ⟨w.heap.size, 4, none⟩ = some (.int .i64 s) := hgx.cell 4
                  have hgl3 := hgx.lt
                  have HG3 := Lib.hid hgx
                  have HB3 := Lib.hid (HBr.out.trans (hb.mono HBr.out.size))
                  clear hgx ho hb
                  (go_wp2_with fail); refine (HLN.out _).mono ?_
                  rintro e w4 ⟨rfl, hb⟩
                  have HM4 := Lib.hid (HM3.out.below hb)
                  have HG4 := Lib.hid (HG3.out.below hb)
                  have HB4 := Lib.hid (HB3.out.trans (hb.mono HB3.out.size))
                  have HS4 := Lib.hid (Sl.mono (Sl.of_own (own_below HO3.out hb) (by rw [bv_length]; omega)) (Nat.zero_le _))
                  clear hb k0 k1 k2 k3 k4 hgl hgl3
                  (go_wp2_with fail); refine (bitsRight_any _ ys L _ HS4.out HYB.out ⟨by omega, by omega⟩).mono ?_
                  rintro e w5 ⟨rfl, rfl⟩
                  rw [HRT.out]
                  (go_wp2_with fail); refine (bitsCount_any _ ys _ HS4.out HYB.out (by omega)).mono ?_
                  rintro e w5 ⟨rfl, hb⟩
                  rw [HCT.out]
                  have HM5 := Lib.hid (HM4.out.below hb)
                  have HG5 := Lib.hid (HG4.out.below hb)
                  have HB5 := Lib.hid (HB4.out.trans (hb.mono HB4.out.size))
                  clear hb
                  (go_wp2_with fail); refine (mapValidAll_any HM5.out j).mono ?_
                  rintro e w6 ⟨rfl, rfl⟩
                  rw [HVAL.out]
                  (go_wp2_with fail); refine (mapValidAll_any HM5.out j).mono ?_
                  rintro e w6 ⟨rfl, rfl⟩
                  rw [HVAL.out]
                  go_wp2_with fail
                  go_roundw
                  case rel => exact ⟨j + 1, by omega, by go_num, by rw [HSS2.out]; simp, HM5.out, HG5.out, HB5.out⟩
                  case measure => simp [intOf]; omega
                · obtain rfl : j = bl := by omega
                  rw [HSM.out]
                  (go_wp2_with fail); refine (mapMany_any HMr.out).mono ?_
                  rintro e w3 ⟨rfl, rfl⟩
                  rw [HK.out]
                  go_wp2_with fail
                  go_ret
                  exact ⟨ret_bool (by simp), HBr.out⟩
  · obtain ⟨hb, rfl⟩ := newPost_no hp (by simpa using hno)
    have HB2 := Lib.hid (HB1.out.trans (hb.mono HB1.out.size))
    clear hp hb
    go_wp2_with fail
    go_ret
    exact ⟨rfl, HB2.out⟩

end Go.Proofs.Ytlkapaecaeldpaa
