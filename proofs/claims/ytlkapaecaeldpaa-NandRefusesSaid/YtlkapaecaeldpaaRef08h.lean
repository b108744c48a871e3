/-
  Package strakeref08: Read.
-/
import Derived.Test.YtlkapaecaeldpaaRef08g
import Derived.Test.YtlkapaecaeldpaaRef03b
set_option linter.unusedVariables false
set_option linter.unusedSimpArgs false
set_option maxRecDepth 16384
namespace Go.Proofs.Ytlkapaecaeldpaa
open Go.RowKit

theorem evSec_take {g : Geo} {evs : List Ev} {j a : Nat} {e : Ev} (he : evs[j]? = some e) : evSec g (evs.take (j + 1)).reverse a = evSec g (e :: (evs.take j).reverse) a := by
  rw [List.take_add_one, he]
  simp

theorem row5_at {w : World} {base m sz : Nat} {tt : TypeId} {v : Value} {ys : List Value} (h : w.ownsRow base tt sz v m ys) {j : Nat} {x : Value} (hj : ys[j]? = some x) : ∃ g cap, v = .slice (some ⟨g, 0, none⟩) m cap ∧ g < w.heap.size ∧ w.cell? ⟨g, j, none⟩ = some x := by
  obtain ⟨h1, h2⟩ := h
  have hjl := (List.getElem?_eq_some_iff.1 hj).1
  rcases h2 with ⟨_, h0⟩ | ⟨g, cap, cur, rfl, h3, h4, h5, h6, h7, h8⟩
  · subst h0; omega
  · refine ⟨g, cap, rfl, (Array.getElem?_eq_some_iff.1 h4).1, ?_⟩
    rw [← h8, List.getElem?_take] at hj
    split at hj
    · simp only [World.cell?, h4]
      simpa using hj
    · cases hj

/-- what is known within the making of two copies -/
def RReadJ (base : Nat) (xs ys : List Int) (i : Nat) (v : Value) (lo hi : Nat) (w : World) : Prop :=
  match i with
  | 0 => ∃ g, v = .slice (some ⟨g, 0, none⟩) 0 0 ∧ base ≤ g ∧ Blk w g 5 []
  | 7 => w.ownsRow base 5 1 v xs.length (bv xs)
  | 8 => ∃ g, v = .slice (some ⟨g, 0, none⟩) 0 0 ∧ base ≤ g ∧ Blk w g 5 []
  | 15 => w.ownsRow base 5 1 v ys.length (bv ys)
  | 16 => w.ownsRow base 5 1 v xs.length (bv xs)
  | 17 => w.ownsRow base 5 1 v ys.length (bv ys)
  | _ => True
theorem RReadJ.keep {base : Nat} {xs ys : List Int} (i : Nat) (v : Value) (lo hi : Nat) (w w' : World) (h : RReadJ base xs ys i v lo hi w) (hs : Since w w') : RReadJ base xs ys i v lo hi w' := by
  unfold RReadJ at *
  split at h
  · obtain ⟨g, h1, h2, h3⟩ := h; exact ⟨g, h1, h2, h3.below hs⟩
  · exact own_below h hs
  · obtain ⟨g, h1, h2, h3⟩ := h; exact ⟨g, h1, h2, h3.below hs⟩
  · exact own_below h hs
  · exact own_below h hs
  · exact own_below h hs
  · trivial

set_option maxHeartbeats 4000000 in
theorem ref08Read_any {w : World} {F : Nat → Prop} {r : Nat} {g : Geo} {S : NSt} {m : Nat} (H : RNAt w F r g S m) (hm : m ≤ 1000000) (a : Int) (ha : IsInt a) :
    Calls Try.prog 106 #[.pointer (some ⟨r, 0, none⟩), .int .i64 a] w fun e w' => ReadPost 5 w (readOf g S a) e w' := by
  obtain ⟨L, n0, evs, pb, nx, wrr, rt, lv, lg, H⟩ := H
  have HH := Lib.hid H
  have HR : Hid (readOf g S a = (if S.off = true then ([], [], 5) else if 0 ≤ a ∧ a < g.all then (match S.sec a.toNat with | some p => (p.1, p.2, 0) | none => ([], [], 6)) else ([], [], 2) : List Int × List Int × Int)) := Lib.hid rfl
  obtain ⟨R, hR⟩ : ∃ R, readOf g S a = R := ⟨_, rfl⟩
  rw [hR] at HR
  rw [hR]
  clear hR
  have HOF : Hid (∀ wy, Calls Try.prog 64 #[g.v, .int .i64 a] wy fun e w' => e = .returned (.tuple #[(g.ofP a).v, .int .i64 (g.ofE a)]) ∧ Below wy.heap.size wy w') := Lib.hid (fun wy => ref03Of_any g a wy ha)
  have HE : Hid (g.ofE a = if 0 ≤ a ∧ a < g.all then 0 else 2) := by
    show _ = _
    unfold Geo.ofE
    rw [if_pos H.ok]
  have hsc0 : 0 ≤ a → a < g.all → 0 ≤ (g.ofP a).sector := fun h0 h1 => (Geo.of_in (Geo.ok_of H.ok) h0 h1).1.s.1
  obtain ⟨⟨u, bl, pg, sc⟩, hP⟩ : ∃ P, g.ofP a = P := ⟨_, rfl⟩
  have HPP := Lib.hid hP
  obtain ⟨E, hE⟩ : ∃ E, g.ofE a = E := ⟨_, rfl⟩
  rw [hP] at HOF hsc0
  rw [hE] at HOF HE
  have k0 : w.cell? ⟨r, 0, none⟩ = some (.int .i64 g.chans) := H.blk.cell 0
  have k1 : w.cell? ⟨r, 1, none⟩ = some (.int .i64 g.luns) := H.blk.cell 1
  have k2 : w.cell? ⟨r, 2, none⟩ = some (.int .i64 g.blocks) := H.blk.cell 2
  have k3 : w.cell? ⟨r, 3, none⟩ = some (.int .i64 g.pages) := H.blk.cell 3
  have k4 : w.cell? ⟨r, 4, none⟩ = some (.int .i64 g.sectors) := H.blk.cell 4
  have k10 : w.cell? ⟨r, 10, none⟩ = some (.bool S.off) := H.blk.cell 10
  have hrl := H.blk.lt
  obtain ⟨A, hAA⟩ : ∃ A, g.all = A := ⟨_, rfl⟩
  have HAE := Lib.hid hAA
  rw [hAA] at HR HE hsc0
  obtain ⟨c, l, b, p, s⟩ := g
  simp only [Geo.v, Place.v] at HOF
  simp only at k0 k1 k2 k3 k4
  clear H hAA hP hE
  obtain ⟨O, hO⟩ : ∃ O, S.off = O := ⟨_, rfl⟩
  rw [hO] at k10
  by_cases hoff : O = true
  · subst hoff
    have HRX : Hid (R = ([], [], 5)) := by show _ = _; rw [HR.out, if_pos hO]
    clear hO
    go_enter Try.func106, Try.ntmps106
    go_wp2_with fail
    refine bodyPost_ret (v := .tuple #[.slice none 0 0, .slice none 0 0, .int .i64 5]) (by simp [results, Try.results106, go_sem]) rfl ?_
    rw [HRX.out]
    exact ReadPost.no (Below.refl _ _)
  obtain rfl : O = false := by simpa using hoff
  have hr2 := HR.out
  rw [if_neg (by rw [hO]; decide)] at hr2
  have HR2 := Lib.hid hr2
  clear hO hoff HR hr2
  go_enter Try.func106, Try.ntmps106
  (go_wp2_with fail); refine (HOF.out _).mono ?_
  rintro e w1 ⟨rfl, hb⟩
  have H1 := Lib.hid (HH.out.below hb)
  have HB1 := Lib.hid hb
  clear hb k0 k1 k2 k3 k4 k10 hrl
  by_cases hin : 0 ≤ a ∧ a < A
  · obtain rfl : E = 0 := by rw [HE.out, if_pos hin]
    obtain ⟨i, rfl⟩ : ∃ i : Nat, a = i := ⟨a.toNat, by omega⟩
    have hsc := hsc0 hin.1 hin.2
    obtain ⟨ks, rfl⟩ : ∃ k : Nat, sc = k := ⟨sc.toNat, by omega⟩
    have hr3 := HR2.out
    rw [if_pos hin, Int.toNat_natCast, HH.out.sec i, if_pos (by rw [HAE.out]; exact hin.2)] at hr3
    have HR3 := Lib.hid hr3
    have HP0 := Lib.hid (Blk.new w1 84 [.int .i64 u, .int .i64 bl, .int .i64 pg, .int .i64 (ks : Int)])
    have HB2 : Hid (Below w.heap.size w (w1.alloc (.cells #[.int .i64 u, .int .i64 bl, .int .i64 pg, .int .i64 (ks : Int)] 84))) := Lib.hid (HB1.out.alloc HB1.out.size _)
    have hblk := H1.out.blk
    have r6 : w1.cell? ⟨r, 6, none⟩ = some lg := hblk.cell 6
    have hrl := hblk.lt
    obtain ⟨xs0, hown0, _⟩ := H1.out.log
    obtain ⟨la, lc, rfl⟩ := own_slice hown0
    have hfw := HH.out.few.2
    clear hsc hsc0 hr3 hblk hown0 HR2
    go_wp2_with fail
    go_loopw [9] (fun t wr => ∃ (k : Nat) (x : Int), k ≤ evs.length ∧ x = (k : Int) - 1 ∧ t = .int .i64 x ∧ Hid (Blk wr w1.heap.size 84 [.int .i64 u, .int .i64 bl, .int .i64 pg, .int .i64 (ks : Int)]) ∧ Hid (Below w.heap.size w wr) ∧ Hid (Below w1.heap.size w1 wr) ∧ Hid (evSec ⟨c, l, b, p, s⟩ (evs.take k).reverse i = evSec ⟨c, l, b, p, s⟩ evs.reverse i)) (fun t _ => (intOf t + 1).toNat)
    case atStart => exact ⟨evs.length, _, Nat.le_refl _, rfl, by go_num, HP0.out, HB2.out, (Below.refl _ _).alloc (Nat.le_refl _) _, by show _ = _; rw [List.take_length]⟩
    case round =>
      obtain ⟨k, x, hk, ht, rfl, HPr, HBr, HBs, HEr⟩ := hrel
      cases k with
      | zero =>
        obtain rfl : x = -1 := by omega
        clear ht
        have HRX : Hid (R = ([], [], 6)) := by
          show _ = _
          rw [HR3.out, ← HEr.out]
          rfl
        go_wp2_with fail
        refine bodyPost_ret (v := .tuple #[.slice none 0 0, .slice none 0 0, .int .i64 6]) (by simp [results, Try.results106, go_sem]) rfl ?_
        rw [HRX.out]
        exact ReadPost.no HBr.out
      | succ j =>
        obtain rfl : x = (j : Int) := by omega
        clear ht
        obtain ⟨⟨eu, eb, ep, ed, eo⟩, hej⟩ : ∃ e, evs[j]? = some e := ⟨_, List.getElem?_eq_getElem (by omega)⟩
        have hr := H1.out.below HBs.out
        obtain ⟨xs, hown, hev⟩ := hr.log
        obtain ⟨vd, vo, q0, q1, q2, q3, q4, q5, q6, q7⟩ := hev j _ hej
        obtain ⟨gl, cl, hfe⟩ := own_form hown (by omega)
        injection hfe with hfe _ hfc
        subst hfe
        have cell : ∀ {d : Nat} {v : Value}, xs[d]? = some v → gl < wr.heap.size ∧ wr.cell? ⟨gl, d, none⟩ = some v := fun {d v} hv => by
          obtain ⟨g', cp', e1, e2, e3⟩ := row5_at hown hv
          injection e1 with e1 _ _
          injection e1 with e1
          injection e1 with e1
          subst e1
          exact ⟨e2, e3⟩
        have c0 := (cell q0).2
        have c1 := (cell q1).2
        have c2 := (cell q2).2
        have c3 := (cell q3).2
        have c4 := (cell q4).2
        have hgl := (cell q0).1
        obtain ⟨vda, vdc, rfl⟩ : ∃ a cap, vd = .slice a ed.length cap := by obtain ⟨a', c', e1, _⟩ := q5; exact ⟨a', c', e1⟩
        obtain ⟨voa, voc, rfl⟩ : ∃ a cap, vo = .slice a eo.length cap := by obtain ⟨a', c', e1, _⟩ := q6; exact ⟨a', c', e1⟩
        simp only at c0 c1 c2 q7
        have HDL := Lib.hid q7
        have HSD := Lib.hid q5
        have HSO := Lib.hid q6
        have p0 : wr.cell? ⟨w1.heap.size, 0, none⟩ = some (.int .i64 u) := HPr.out.cell 0
        have p1 : wr.cell? ⟨w1.heap.size, 1, none⟩ = some (.int .i64 bl) := HPr.out.cell 1
        have p2 : wr.cell? ⟨w1.heap.size, 2, none⟩ = some (.int .i64 pg) := HPr.out.cell 2
        have p3 : wr.cell? ⟨w1.heap.size, 3, none⟩ = some (.int .i64 (ks : Int)) := HPr.out.cell 3
        have hpl := HPr.out.lt
        have r6' : wr.cell? ⟨r, 6, none⟩ = some (.slice (some ⟨gl, 0, none⟩) evs.length lc) := hr.blk.cell 6
        have hrl' := hr.blk.lt
        have hevs := HEr.out
        rw [evSec_take hej] at hevs
        have HEV := Lib.hid hevs
        have HEB : Hid (∀ v : List Value, v = [.int .i64 eu, .int .i64 eb, .int .i64 ep, .slice vda ed.length vdc, .slice voa eo.length voc] → Below w.heap.size w (wr.alloc (.cells v.toArray 178)) ∧ Below w1.heap.size w1 (wr.alloc (.cells v.toArray 178)) ∧ Blk (wr.alloc (.cells v.toArray 178)) w1.heap.size 84 [.int .i64 u, .int .i64 bl, .int .i64 pg, .int .i64 (ks : Int)]) := fun v _ => ⟨HBr.out.alloc HBr.out.size _, HBs.out.alloc HBs.out.size _, HPr.out.below ((Below.refl _ _).alloc (Nat.le_refl _) _)⟩
        have HKB := Lib.hid (HEB.out _ rfl)
        clear HEB hr hown hev q0 q1 q2 q3 q4 q5 q6 q7 cell hevs HEr hej r6 hrl
        have hj0 : (0 : Int) ≤ j := by omega
        have hj1 : (j : Int) < evs.length := by omega
        by_cases h1 : eu = u
        case neg =>
          have hb1 : (eu != u) = true := by simp [h1]
          have hev2 := HEV.out
          rw [evSec, if_neg (fun q => h1 (by rw [HPP.out] at q; exact q.1))] at hev2
          have HEV2 := Lib.hid hev2
          clear hev2 HEV h1
          go_wp2_with fail
          go_roundw
          case rel => exact ⟨j, (j : Int) - 1, by omega, rfl, by go_num, HKB.out.2.2, HKB.out.1, HKB.out.2.1, HEV2.out⟩
          case measure => first | (simp [intOf]; done) | (simp [intOf]; omega)
        subst h1
        by_cases h2 : eb = bl
        case neg =>
          have hb1 : (eb != bl) = true := by simp [h2]
          have hev2 := HEV.out
          rw [evSec, if_neg (fun q => h2 (by rw [HPP.out] at q; exact q.2.1))] at hev2
          have HEV2 := Lib.hid hev2
          clear hev2 HEV h2
          go_wp2_with fail
          go_roundw
          case rel => exact ⟨j, (j : Int) - 1, by omega, rfl, by go_num, HKB.out.2.2, HKB.out.1, HKB.out.2.1, HEV2.out⟩
          case measure => first | (simp [intOf]; done) | (simp [intOf]; omega)
        subst h2
        by_cases h3 : ep = -1
        · subst h3
          have hev2 := HEV.out
          rw [evSec, if_pos (by rw [HPP.out]; exact ⟨rfl, rfl, .inl rfl⟩), HPP.out] at hev2
          simp only [Int.toNat_natCast] at hev2
          have HEV2 := Lib.hid hev2
          clear hev2 HEV
          by_cases hks : ks < ed.length
          case neg =>
            have HRX : Hid (R = ([], [], 6)) := by
              show _ = _
              rw [HR3.out, ← HEV2.out, if_neg (by omega)]
            have hks' : ¬ ((ks : Int) < ed.length) := by omega
            clear hks
            go_wp2_with fail
            refine bodyPost_ret (v := .tuple #[.slice none 0 0, .slice none 0 0, .int .i64 6]) (by simp [results, Try.results106, go_sem]) rfl ?_
            rw [HRX.out]
            exact ReadPost.no HKB.out.1
          case pos =>
            have hks' : (ks : Int) < ed.length := by omega
            obtain ⟨xs, hxs⟩ : ∃ x, ed[ks]? = some x := ⟨_, List.getElem?_eq_getElem hks⟩
            obtain ⟨ys, hys⟩ : ∃ y, eo[ks]? = some y := ⟨_, List.getElem?_eq_getElem (by have := HDL.out; omega)⟩
            have hks2 : (ks : Int) < eo.length := by have := HDL.out; omega
            have HRX : Hid (R = (xs, ys, 0)) := by
              show _ = _
              rw [HR3.out, ← HEV2.out, if_pos hks', List.getD_eq_getElem?_getD, List.getD_eq_getElem?_getD, hxs, hys]
              rfl
            obtain ⟨gx, ox, uxa, uxc, rfl, hgx, hcx, hsx⟩ := HSD.out.get hxs
            obtain ⟨gy, oy, uya, uyc, rfl, hgy, hcy, hsy⟩ := HSO.out.get hys
            have hbe : Below wr.heap.size wr (wr.alloc (.cells #[.int .i64 eu, .int .i64 eb, .int .i64 (-1), .slice (some ⟨gx, ox, none⟩) ed.length vdc, .slice (some ⟨gy, oy, none⟩) eo.length voc] 178)) := (Below.refl _ _).alloc (Nat.le_refl _) _
            have HX1 := Lib.hid (hsx.sl.below hbe)
            have HY1 := Lib.hid (hsy.sl.below hbe)
            have hxl : xs.length ≤ 140737488351232 := by obtain ⟨_, _, _, _, q, _⟩ := hsx; rwa [bv_length] at q
            have hyl : ys.length ≤ 140737488351232 := by obtain ⟨_, _, _, _, q, _⟩ := hsy; rwa [bv_length] at q
            have hcx1 := (World.cell?_of_block (a := ⟨gx, ox + ks, none⟩) (hbe.block gx hgx)).trans hcx
            have hcy1 := (World.cell?_of_block (a := ⟨gy, oy + ks, none⟩) (hbe.block gy hgy)).trans hcy
            have HK2 := Lib.hid (Blk.new wr 178 [.int .i64 eu, .int .i64 eb, .int .i64 (-1), .slice (some ⟨gx, ox, none⟩) ed.length vdc, .slice (some ⟨gy, oy, none⟩) eo.length voc])
            obtain ⟨i0, hif, hz0, hz1, hz2⟩ := info_parts info_u8
            clear hsx hsy hxs hys hcx hcy
            go_wp2_with fail
            clear c0 c1 c2 c3 c4 p0 p1 p2 p3 r6'
            generalize hkb : wr.heap.size = kb at HK2 ⊢
            have hws : kb ≤ (wr.alloc (.cells #[.int .i64 eu, .int .i64 eb, .int .i64 (-1), .slice (some ⟨gx, ox, none⟩) ed.length vdc, .slice (some ⟨gy, oy, none⟩) eo.length voc] 178)).heap.size := by rw [← hkb]; exact hbe.size
            clear hbe
            generalize hw2 : wr.alloc (.cells #[.int .i64 eu, .int .i64 eb, .int .i64 (-1), .slice (some ⟨gx, ox, none⟩) ed.length vdc, .slice (some ⟨gy, oy, none⟩) eo.length voc] 178) = w2 at *
            have d3 : w2.cell? ⟨kb, 3, none⟩ = some (.slice (some ⟨gx, ox, none⟩) ed.length vdc) := HK2.out.cell 3
            have d4 : w2.cell? ⟨kb, 4, none⟩ = some (.slice (some ⟨gy, oy, none⟩) eo.length voc) := HK2.out.cell 4
            have hkl := HK2.out.lt
            have HPL := HKB.out.2.2
            have e3 : w2.cell? ⟨w1.heap.size, 3, none⟩ = some (.int .i64 (ks : Int)) := HPL.cell 3
            have hpl2 := HPL.lt
            have hxb := World.block_lt_of_cell? w2 _ hcx1
            have hyb := World.block_lt_of_cell? w2 _ hcy1
            have HB2 := Lib.hid HKB.out.1
            have hw2s := HB2.out.size
            have hk0 : (0 : Int) ≤ ks := by omega
            clear hw2 hkb HPL HKB hgx hgy
            refine wp_region_t 18 [(0, []), (7, [0]), (8, []), (15, [8]), (16, [7]), (17, [15])] 19 (RReadJ w2.drew.heap.size xs ys) [undef, ?_, ?_, ?_, ?_, ?_, ?_, undef, undef, ?_, ?_, ?_, ?_, ?_, ?_, undef, undef, undef] (by kernel_rfl) (by kernel_rfl) (by kernel_rfl) RReadJ.keep ?_
            rotate_left 12
            simp only [List.take_succ_cons, List.take_zero, List.drop_succ_cons, List.drop_zero]
            refine SeqT.tie rfl (by decide) rfl (fun wz hz hd => ?_) (fun v0 _ _ => ?_)
            · clear hd
              go_simp
              exact UponT.value ⟨⟨wz.heap.size, rfl, hz.below.size, Blk.new wz 5 []⟩, (Below.refl _ _).alloc (Nat.le_refl _) _⟩
            (try simp only [Act.put, List.setIfInBounds_toArray, List.set_cons_zero, List.set_cons_succ])
            refine SeqT.run (v := ?_) rfl rfl (fun _ wz hz => ?_) ?_ ?_; rotate_left; (have hzc := hz.cell; have hzf := hz.frozen; go_simp; first | exact UponS.value (Since.refl _) | exact UponS.skip (Since.refl _)); (exact rfl); (try simp only [Act.put, List.setIfInBounds_toArray, List.set_cons_zero, List.set_cons_succ])
            refine SeqT.run (v := ?_) rfl rfl (fun _ wz hz => ?_) ?_ ?_; rotate_left; (have hzc := hz.cell; have hzf := hz.frozen; go_simp; first | exact UponS.value (Since.refl _) | exact UponS.skip (Since.refl _)); (exact rfl); (try simp only [Act.put, List.setIfInBounds_toArray, List.set_cons_zero, List.set_cons_succ])
            refine SeqT.run (v := ?_) rfl rfl (fun _ wz hz => ?_) ?_ ?_; rotate_left; (have hzc := hz.cell; have hzf := hz.frozen; go_simp; first | exact UponS.value (Since.refl _) | exact UponS.skip (Since.refl _)); (exact rfl); (try simp only [Act.put, List.setIfInBounds_toArray, List.set_cons_zero, List.set_cons_succ])
            refine SeqT.run (v := ?_) rfl rfl (fun _ wz hz => ?_) ?_ ?_; rotate_left; (have hzc := hz.cell; have hzf := hz.frozen; go_simp; first | exact UponS.value (Since.refl _) | exact UponS.skip (Since.refl _)); (exact rfl); (try simp only [Act.put, List.setIfInBounds_toArray, List.set_cons_zero, List.set_cons_succ])
            refine SeqT.run (v := ?_) rfl rfl (fun _ wz hz => ?_) ?_ ?_; rotate_left; (have hzc := hz.cell; have hzf := hz.frozen; go_simp; first | exact UponS.value (Since.refl _) | exact UponS.skip (Since.refl _)); (exact rfl); (try simp only [Act.put, List.setIfInBounds_toArray, List.set_cons_zero, List.set_cons_succ])
            refine SeqT.run (v := ?_) rfl rfl (fun _ wz hz => ?_) ?_ ?_; rotate_left; (have hzc := hz.cell; have hzf := hz.frozen; go_simp; first | exact UponS.value (Since.refl _) | exact UponS.skip (Since.refl _)); (exact rfl); (try simp only [Act.put, List.setIfInBounds_toArray, List.set_cons_zero, List.set_cons_succ])
            refine SeqT.tie rfl (by decide) rfl (fun wz hz hd => ?_) (fun v7 _ _ => ?_)
            · obtain ⟨g0, rfl, hg0, hk0'⟩ := hd.all 0 (by decide) v0 _ _ rfl
              obtain ⟨v', w', hr, ho, hs⟩ := run_append_fresh (P := Try.prog) w2.drew.heap.size 45 45 5 _ (.int .u8 0) 1 Try.underlying45 hif hz0 hz1 hz2 rfl g0 hg0 hz.below.size hk0' 0 (.slice uxa xs.length uxc) (bv xs) (HX1.out.below ((Below.refl w2.heap.size w2).drew.trans hz.below)) (by rw [bv_length]; unfold maxLen; omega) (by rw [bv_length]; omega)
              rw [bv_length] at ho
              exact UponT.append _ _ _ _ _ _ rfl rfl rfl hr ⟨ho, hs⟩
            (try simp only [Act.put, List.setIfInBounds_toArray, List.set_cons_zero, List.set_cons_succ])
            refine SeqT.tie rfl (by decide) rfl (fun wz hz hd => ?_) (fun v8 _ _ => ?_)
            · clear hd
              go_simp
              exact UponT.value ⟨⟨wz.heap.size, rfl, hz.below.size, Blk.new wz 5 []⟩, (Below.refl _ _).alloc (Nat.le_refl _) _⟩
            (try simp only [Act.put, List.setIfInBounds_toArray, List.set_cons_zero, List.set_cons_succ])
            refine SeqT.run (v := ?_) rfl rfl (fun _ wz hz => ?_) ?_ ?_; rotate_left; (have hzc := hz.cell; have hzf := hz.frozen; go_simp; first | exact UponS.value (Since.refl _) | exact UponS.skip (Since.refl _)); (exact rfl); (try simp only [Act.put, List.setIfInBounds_toArray, List.set_cons_zero, List.set_cons_succ])
            refine SeqT.run (v := ?_) rfl rfl (fun _ wz hz => ?_) ?_ ?_; rotate_left; (have hzc := hz.cell; have hzf := hz.frozen; go_simp; first | exact UponS.value (Since.refl _) | exact UponS.skip (Since.refl _)); (exact rfl); (try simp only [Act.put, List.setIfInBounds_toArray, List.set_cons_zero, List.set_cons_succ])
            refine SeqT.run (v := ?_) rfl rfl (fun _ wz hz => ?_) ?_ ?_; rotate_left; (have hzc := hz.cell; have hzf := hz.frozen; go_simp; first | exact UponS.value (Since.refl _) | exact UponS.skip (Since.refl _)); (exact rfl); (try simp only [Act.put, List.setIfInBounds_toArray, List.set_cons_zero, List.set_cons_succ])
            refine SeqT.run (v := ?_) rfl rfl (fun _ wz hz => ?_) ?_ ?_; rotate_left; (have hzc := hz.cell; have hzf := hz.frozen; go_simp; first | exact UponS.value (Since.refl _) | exact UponS.skip (Since.refl _)); (exact rfl); (try simp only [Act.put, List.setIfInBounds_toArray, List.set_cons_zero, List.set_cons_succ])
            refine SeqT.run (v := ?_) rfl rfl (fun _ wz hz => ?_) ?_ ?_; rotate_left; (have hzc := hz.cell; have hzf := hz.frozen; go_simp; first | exact UponS.value (Since.refl _) | exact UponS.skip (Since.refl _)); (exact rfl); (try simp only [Act.put, List.setIfInBounds_toArray, List.set_cons_zero, List.set_cons_succ])
            refine SeqT.run (v := ?_) rfl rfl (fun _ wz hz => ?_) ?_ ?_; rotate_left; (have hzc := hz.cell; have hzf := hz.frozen; go_simp; first | exact UponS.value (Since.refl _) | exact UponS.skip (Since.refl _)); (exact rfl); (try simp only [Act.put, List.setIfInBounds_toArray, List.set_cons_zero, List.set_cons_succ])
            refine SeqT.tie rfl (by decide) rfl (fun wz hz hd => ?_) (fun v15 _ _ => ?_)
            · obtain ⟨g0, rfl, hg0, hk0'⟩ := hd.all 8 (by decide) v8 _ _ rfl
              obtain ⟨v', w', hr, ho, hs⟩ := run_append_fresh (P := Try.prog) w2.drew.heap.size 45 45 5 _ (.int .u8 0) 1 Try.underlying45 hif hz0 hz1 hz2 rfl g0 hg0 hz.below.size hk0' 0 (.slice uya ys.length uyc) (bv ys) (HY1.out.below ((Below.refl w2.heap.size w2).drew.trans hz.below)) (by rw [bv_length]; unfold maxLen; omega) (by rw [bv_length]; omega)
              rw [bv_length] at ho
              exact UponT.append _ _ _ _ _ _ rfl rfl rfl hr ⟨ho, hs⟩
            (try simp only [Act.put, List.setIfInBounds_toArray, List.set_cons_zero, List.set_cons_succ])
            refine SeqT.tie rfl (by decide) rfl (fun wz hz hd => ?_) (fun v16 _ _ => ?_)
            · have h3 : wz.ownsRow w2.drew.heap.size 5 1 v7 xs.length (bv xs) := hd.all 7 (by decide) v7 _ _ rfl
              clear hd
              go_simp
              exact UponT.value ⟨h3, Since.refl _⟩
            (try simp only [Act.put, List.setIfInBounds_toArray, List.set_cons_zero, List.set_cons_succ])
            refine SeqT.tie rfl (by decide) rfl (fun wz hz hd => ?_) (fun v17 _ _ => ?_)
            · have h3 : wz.ownsRow w2.drew.heap.size 5 1 v15 ys.length (bv ys) := hd.all 15 (by decide) v15 _ _ rfl
              clear hd
              go_simp
              exact UponT.value ⟨h3, Since.refl _⟩
            (try simp only [Act.put, List.setIfInBounds_toArray, List.set_cons_zero, List.set_cons_succ])
            intro wz hz hi
            have h8 : wz.ownsRow w2.drew.heap.size 5 1 v16 xs.length (bv xs) := hi.all 16 v16 _ _ rfl
            have h9' : wz.ownsRow w2.drew.heap.size 5 1 v17 ys.length (bv ys) := hi.all 17 v17 _ _ rfl
            have HFIN : Hid (ReadPost 5 w R (.returned (.tuple #[v16, v17, .int .i64 0])) wz) := by
              show ReadPost _ _ _ _ _
              rw [HRX.out]
              exact ⟨v16, v17, rfl, own_mono h8 hw2s, own_mono h9' hw2s, HB2.out.drew.trans (hz.below.mono hw2s)⟩
            clear hz hi h8 h9'
            go_wp2
            refine bodyPost_ret (v := .tuple #[v16, v17, .int .i64 0]) (by simp [results, Try.results106, go_sem]) rfl ?_
            exact HFIN.out
        have hb3 : (ep != -1) = true := by simp [h3]
        by_cases h4 : ep = pg
        · subst h4
          have hev2 := HEV.out
          rw [evSec, if_pos (by rw [HPP.out]; exact ⟨rfl, rfl, .inr rfl⟩), HPP.out] at hev2
          simp only [Int.toNat_natCast] at hev2
          have HEV2 := Lib.hid hev2
          clear hev2 HEV h3
          by_cases hks : ks < ed.length
          case neg =>
            have HRX : Hid (R = ([], [], 6)) := by
              show _ = _
              rw [HR3.out, ← HEV2.out, if_neg (by omega)]
            have hks' : ¬ ((ks : Int) < ed.length) := by omega
            clear hks
            go_wp2_with fail
            refine bodyPost_ret (v := .tuple #[.slice none 0 0, .slice none 0 0, .int .i64 6]) (by simp [results, Try.results106, go_sem]) rfl ?_
            rw [HRX.out]
            exact ReadPost.no HKB.out.1
          case pos =>
            have hks' : (ks : Int) < ed.length := by omega
            obtain ⟨xs, hxs⟩ : ∃ x, ed[ks]? = some x := ⟨_, List.getElem?_eq_getElem hks⟩
            obtain ⟨ys, hys⟩ : ∃ y, eo[ks]? = some y := ⟨_, List.getElem?_eq_getElem (by have := HDL.out; omega)⟩
            have hks2 : (ks : Int) < eo.length := by have := HDL.out; omega
            have HRX : Hid (R = (xs, ys, 0)) := by
              show _ = _
              rw [HR3.out, ← HEV2.out, if_pos hks', List.getD_eq_getElem?_getD, List.getD_eq_getElem?_getD, hxs, hys]
              rfl
            obtain ⟨gx, ox, uxa, uxc, rfl, hgx, hcx, hsx⟩ := HSD.out.get hxs
            obtain ⟨gy, oy, uya, uyc, rfl, hgy, hcy, hsy⟩ := HSO.out.get hys
            have hbe : Below wr.heap.size wr (wr.alloc (.cells #[.int .i64 eu, .int .i64 eb, .int .i64 ep, .slice (some ⟨gx, ox, none⟩) ed.length vdc, .slice (some ⟨gy, oy, none⟩) eo.length voc] 178)) := (Below.refl _ _).alloc (Nat.le_refl _) _
            have HX1 := Lib.hid (hsx.sl.below hbe)
            have HY1 := Lib.hid (hsy.sl.below hbe)
            have hxl : xs.length ≤ 140737488351232 := by obtain ⟨_, _, _, _, q, _⟩ := hsx; rwa [bv_length] at q
            have hyl : ys.length ≤ 140737488351232 := by obtain ⟨_, _, _, _, q, _⟩ := hsy; rwa [bv_length] at q
            have hcx1 := (World.cell?_of_block (a := ⟨gx, ox + ks, none⟩) (hbe.block gx hgx)).trans hcx
            have hcy1 := (World.cell?_of_block (a := ⟨gy, oy + ks, none⟩) (hbe.block gy hgy)).trans hcy
            have HK2 := Lib.hid (Blk.new wr 178 [.int .i64 eu, .int .i64 eb, .int .i64 ep, .slice (some ⟨gx, ox, none⟩) ed.length vdc, .slice (some ⟨gy, oy, none⟩) eo.length voc])
            obtain ⟨i0, hif, hz0, hz1, hz2⟩ := info_parts info_u8
            clear hsx hsy hxs hys hcx hcy
            go_wp2_with fail
            clear c0 c1 c2 c3 c4 p0 p1 p2 p3 r6'
            generalize hkb : wr.heap.size = kb at HK2 ⊢
            have hws : kb ≤ (wr.alloc (.cells #[.int .i64 eu, .int .i64 eb, .int .i64 ep, .slice (some ⟨gx, ox, none⟩) ed.length vdc, .slice (some ⟨gy, oy, none⟩) eo.length voc] 178)).heap.size := by rw [← hkb]; exact hbe.size
            clear hbe
            generalize hw2 : wr.alloc (.cells #[.int .i64 eu, .int .i64 eb, .int .i64 ep, .slice (some ⟨gx, ox, none⟩) ed.length vdc, .slice (some ⟨gy, oy, none⟩) eo.length voc] 178) = w2 at *
            have d3 : w2.cell? ⟨kb, 3, none⟩ = some (.slice (some ⟨gx, ox, none⟩) ed.length vdc) := HK2.out.cell 3
            have d4 : w2.cell? ⟨kb, 4, none⟩ = some (.slice (some ⟨gy, oy, none⟩) eo.length voc) := HK2.out.cell 4
            have hkl := HK2.out.lt
            have HPL := HKB.out.2.2
            have e3 : w2.cell? ⟨w1.heap.size, 3, none⟩ = some (.int .i64 (ks : Int)) := HPL.cell 3
            have hpl2 := HPL.lt
            have hxb := World.block_lt_of_cell? w2 _ hcx1
            have hyb := World.block_lt_of_cell? w2 _ hcy1
            have HB2 := Lib.hid HKB.out.1
            have hw2s := HB2.out.size
            have hk0 : (0 : Int) ≤ ks := by omega
            clear hw2 hkb HPL HKB hgx hgy
            refine wp_region_t 18 [(0, []), (7, [0]), (8, []), (15, [8]), (16, [7]), (17, [15])] 19 (RReadJ w2.drew.heap.size xs ys) [undef, ?_, ?_, ?_, ?_, ?_, ?_, undef, undef, ?_, ?_, ?_, ?_, ?_, ?_, undef, undef, undef] (by kernel_rfl) (by kernel_rfl) (by kernel_rfl) RReadJ.keep ?_
            rotate_left 12
            simp only [List.take_succ_cons, List.take_zero, List.drop_succ_cons, List.drop_zero]
            refine SeqT.tie rfl (by decide) rfl (fun wz hz hd => ?_) (fun v0 _ _ => ?_)
            · clear hd
              go_simp
              exact UponT.value ⟨⟨wz.heap.size, rfl, hz.below.size, Blk.new wz 5 []⟩, (Below.refl _ _).alloc (Nat.le_refl _) _⟩
            (try simp only [Act.put, List.setIfInBounds_toArray, List.set_cons_zero, List.set_cons_succ])
            refine SeqT.run (v := ?_) rfl rfl (fun _ wz hz => ?_) ?_ ?_; rotate_left; (have hzc := hz.cell; have hzf := hz.frozen; go_simp; first | exact UponS.value (Since.refl _) | exact UponS.skip (Since.refl _)); (exact rfl); (try simp only [Act.put, List.setIfInBounds_toArray, List.set_cons_zero, List.set_cons_succ])
            refine SeqT.run (v := ?_) rfl rfl (fun _ wz hz => ?_) ?_ ?_; rotate_left; (have hzc := hz.cell; have hzf := hz.frozen; go_simp; first | exact UponS.value (Since.refl _) | exact UponS.skip (Since.refl _)); (exact rfl); (try simp only [Act.put, List.setIfInBounds_toArray, List.set_cons_zero, List.set_cons_succ])
            refine SeqT.run (v := ?_) rfl rfl (fun _ wz hz => ?_) ?_ ?_; rotate_left; (have hzc := hz.cell; have hzf := hz.frozen; go_simp; first | exact UponS.value (Since.refl _) | exact UponS.skip (Since.refl _)); (exact rfl); (try simp only [Act.put, List.setIfInBounds_toArray, List.set_cons_zero, List.set_cons_succ])
            refine SeqT.run (v := ?_) rfl rfl (fun _ wz hz => ?_) ?_ ?_; rotate_left; (have hzc := hz.cell; have hzf := hz.frozen; go_simp; first | exact UponS.value (Since.refl _) | exact UponS.skip (Since.refl _)); (exact rfl); (try simp only [Act.put, List.setIfInBounds_toArray, List.set_cons_zero, List.set_cons_succ])
            refine SeqT.run (v := ?_) rfl rfl (fun _ wz hz => ?_) ?_ ?_; rotate_left; (have hzc := hz.cell; have hzf := hz.frozen; go_simp; first | exact UponS.value (Since.refl _) | exact UponS.skip (Since.refl _)); (exact rfl); (try simp only [Act.put, List.setIfInBounds_toArray, List.set_cons_zero, List.set_cons_succ])
            refine SeqT.run (v := ?_) rfl rfl (fun _ wz hz => ?_) ?_ ?_; rotate_left; (have hzc := hz.cell; have hzf := hz.frozen; go_simp; first | exact UponS.value (Since.refl _) | exact UponS.skip (Since.refl _)); (exact rfl); (try simp only [Act.put, List.setIfInBounds_toArray, List.set_cons_zero, List.set_cons_succ])
            refine SeqT.tie rfl (by decide) rfl (fun wz hz hd => ?_) (fun v7 _ _ => ?_)
            · obtain ⟨g0, rfl, hg0, hk0'⟩ := hd.all 0 (by decide) v0 _ _ rfl
              obtain ⟨v', w', hr, ho, hs⟩ := run_append_fresh (P := Try.prog) w2.drew.heap.size 45 45 5 _ (.int .u8 0) 1 Try.underlying45 hif hz0 hz1 hz2 rfl g0 hg0 hz.below.size hk0' 0 (.slice uxa xs.length uxc) (bv xs) (HX1.out.below ((Below.refl w2.heap.size w2).drew.trans hz.below)) (by rw [bv_length]; unfold maxLen; omega) (by rw [bv_length]; omega)
              rw [bv_length] at ho
              exact UponT.append _ _ _ _ _ _ rfl rfl rfl hr ⟨ho, hs⟩
            (try simp only [Act.put, List.setIfInBounds_toArray, List.set_cons_zero, List.set_cons_succ])
            refine SeqT.tie rfl (by decide) rfl (fun wz hz hd => ?_) (fun v8 _ _ => ?_)
            · clear hd
              go_simp
              exact UponT.value ⟨⟨wz.heap.size, rfl, hz.below.size, Blk.new wz 5 []⟩, (Below.refl _ _).alloc (Nat.le_refl _) _⟩
            (try simp only [Act.put, List.setIfInBounds_toArray, List.set_cons_zero, List.set_cons_succ])
            refine SeqT.run (v := ?_) rfl rfl (fun _ wz hz => ?_) ?_ ?_; rotate_left; (have hzc := hz.cell; have hzf := hz.frozen; go_simp; first | exact UponS.value (Since.refl _) | exact UponS.skip (Since.refl _)); (exact rfl); (try simp only [Act.put, List.setIfInBounds_toArray, List.set_cons_zero, List.set_cons_succ])
            refine SeqT.run (v := ?_) rfl rfl (fun _ wz hz => ?_) ?_ ?_; rotate_left; (have hzc := hz.cell; have hzf := hz.frozen; go_simp; first | exact UponS.value (Since.refl _) | exact UponS.skip (Since.refl _)); (exact rfl); (try simp only [Act.put, List.setIfInBounds_toArray, List.set_cons_zero, List.set_cons_succ])
            refine SeqT.run (v := ?_) rfl rfl (fun _ wz hz => ?_) ?_ ?_; rotate_left; (have hzc := hz.cell; have hzf := hz.frozen; go_simp; first | exact UponS.value (Since.refl _) | exact UponS.skip (Since.refl _)); (exact rfl); (try simp only [Act.put, List.setIfInBounds_toArray, List.set_cons_zero, List.set_cons_succ])
            refine SeqT.run (v := ?_) rfl rfl (fun _ wz hz => ?_) ?_ ?_; rotate_left; (have hzc := hz.cell; have hzf := hz.frozen; go_simp; first | exact UponS.value (Since.refl _) | exact UponS.skip (Since.refl _)); (exact rfl); (try simp only [Act.put, List.setIfInBounds_toArray, List.set_cons_zero, List.set_cons_succ])
            refine SeqT.run (v := ?_) rfl rfl (fun _ wz hz => ?_) ?_ ?_; rotate_left; (have hzc := hz.cell; have hzf := hz.frozen; go_simp; first | exact UponS.value (Since.refl _) | exact UponS.skip (Since.refl _)); (exact rfl); (try simp only [Act.put, List.setIfInBounds_toArray, List.set_cons_zero, List.set_cons_succ])
            refine SeqT.run (v := ?_) rfl rfl (fun _ wz hz => ?_) ?_ ?_; rotate_left; (have hzc := hz.cell; have hzf := hz.frozen; go_simp; first | exact UponS.value (Since.refl _) | exact UponS.skip (Since.refl _)); (exact rfl); (try simp only [Act.put, List.setIfInBounds_toArray, List.set_cons_zero, List.set_cons_succ])
            refine SeqT.tie rfl (by decide) rfl (fun wz hz hd => ?_) (fun v15 _ _ => ?_)
            · obtain ⟨g0, rfl, hg0, hk0'⟩ := hd.all 8 (by decide) v8 _ _ rfl
              obtain ⟨v', w', hr, ho, hs⟩ := run_append_fresh (P := Try.prog) w2.drew.heap.size 45 45 5 _ (.int .u8 0) 1 Try.underlying45 hif hz0 hz1 hz2 rfl g0 hg0 hz.below.size hk0' 0 (.slice uya ys.length uyc) (bv ys) (HY1.out.below ((Below.refl w2.heap.size w2).drew.trans hz.below)) (by rw [bv_length]; unfold maxLen; omega) (by rw [bv_length]; omega)
              rw [bv_length] at ho
              exact UponT.append _ _ _ _ _ _ rfl rfl rfl hr ⟨ho, hs⟩
            (try simp only [Act.put, List.setIfInBounds_toArray, List.set_cons_zero, List.set_cons_succ])
            refine SeqT.tie rfl (by decide) rfl (fun wz hz hd => ?_) (fun v16 _ _ => ?_)
            · have h3 : wz.ownsRow w2.drew.heap.size 5 1 v7 xs.length (bv xs) := hd.all 7 (by decide) v7 _ _ rfl
              clear hd
              go_simp
              exact UponT.value ⟨h3, Since.refl _⟩
            (try simp only [Act.put, List.setIfInBounds_toArray, List.set_cons_zero, List.set_cons_succ])
            refine SeqT.tie rfl (by decide) rfl (fun wz hz hd => ?_) (fun v17 _ _ => ?_)
            · have h3 : wz.ownsRow w2.drew.heap.size 5 1 v15 ys.length (bv ys) := hd.all 15 (by decide) v15 _ _ rfl
              clear hd
              go_simp
              exact UponT.value ⟨h3, Since.refl _⟩
            (try simp only [Act.put, List.setIfInBounds_toArray, List.set_cons_zero, List.set_cons_succ])
            intro wz hz hi
            have h8 : wz.ownsRow w2.drew.heap.size 5 1 v16 xs.length (bv xs) := hi.all 16 v16 _ _ rfl
            have h9' : wz.ownsRow w2.drew.heap.size 5 1 v17 ys.length (bv ys) := hi.all 17 v17 _ _ rfl
            have HFIN : Hid (ReadPost 5 w R (.returned (.tuple #[v16, v17, .int .i64 0])) wz) := by
              show ReadPost _ _ _ _ _
              rw [HRX.out]
              exact ⟨v16, v17, rfl, own_mono h8 hw2s, own_mono h9' hw2s, HB2.out.drew.trans (hz.below.mono hw2s)⟩
            clear hz hi h8 h9'
            go_wp2
            refine bodyPost_ret (v := .tuple #[v16, v17, .int .i64 0]) (by simp [results, Try.results106, go_sem]) rfl ?_
            exact HFIN.out
        · have hb1 : (ep != pg) = true := by simp [h4]
          have hev2 := HEV.out
          rw [evSec, if_neg (fun q => by rw [HPP.out] at q; exact q.2.2.elim h3 h4)] at hev2
          have HEV2 := Lib.hid hev2
          clear hev2 HEV h3 h4
          go_wp2_with fail
          go_roundw
          case rel => exact ⟨j, (j : Int) - 1, by omega, rfl, by go_num, HKB.out.2.2, HKB.out.1, HKB.out.2.1, HEV2.out⟩
          case measure => first | (simp [intOf]; done) | (simp [intOf]; omega)
  · obtain rfl : E = 2 := by rw [HE.out, if_neg hin]
    have HB2 : Hid (Below w.heap.size w (w1.alloc (.cells #[.int .i64 u, .int .i64 bl, .int .i64 pg, .int .i64 sc] 84))) := Lib.hid (HB1.out.alloc HB1.out.size _)
    have HRX : Hid (R = ([], [], 2)) := by show _ = _; rw [HR2.out, if_neg hin]
    go_wp2_with fail
    refine bodyPost_ret (v := .tuple #[.slice none 0 0, .slice none 0 0, .int .i64 2]) (by simp [results, Try.results106, go_sem]) rfl ?_
    rw [HRX.out]
    exact ReadPost.no HB2.out

end Go.Proofs.Ytlkapaecaeldpaa
