/-
  Package strakeref08: Program.
-/
import Derived.Test.YtlkapaecaeldpaaRef08f
set_option linter.unusedVariables false
set_option linter.unusedSimpArgs false
set_option maxRecDepth 16384
namespace Go.Proofs.Ytlkapaecaeldpaa
open Go.RowKit

/-- one of them, and whose it is -/
theorem Sls.getQ {w : World} {Q : Nat → Prop} {a : Option Addr} {n cap : Nat} {xss : List (List Int)} (h : Sls w Q (.slice a n cap) xss) {j : Nat} {xs : List Int} (hj : xss[j]? = some xs) :
    ∃ b off ua uc, a = some ⟨b, off, none⟩ ∧ Q b ∧ b < w.heap.size ∧ w.cell? ⟨b, off + j, none⟩ = some (.slice ua xs.length uc) ∧ SlQ w Q (.slice ua xs.length uc) (bv xs) := by
  obtain ⟨a', cap', h1, h2, h3, h4⟩ := h
  injection h1 with q1 q2 q3
  subst q1
  obtain ⟨b, off, u, e, hq, hb, hc, hl⟩ := h4 j xs hj
  have hl2 := hl
  obtain ⟨ua, uc, rfl, _⟩ := hl2
  rw [bv_length] at hc hl
  exact ⟨b, off, ua, uc, e, hq, hb, hc, hl⟩

theorem RNRaw.refew {w : World} {F : Nat → Prop} {r : Nat} {g : Geo} {S : NSt} {m m' : Nat} {L : List Int} {n : Nat} {evs : List Ev} {pb nx wr rt : Nat} {lv lg : Value} (h : RNRaw w F r g S m L n evs pb nx wr rt lv lg) (hn : n ≤ m' ∧ evs.length ≤ m') : RNRaw w F r g S m' L n evs pb nx wr rt lv lg :=
  ⟨h.blk, h.pl, h.left, h.leftB, h.plan, h.nxs, h.log, h.sec, h.mem, h.apart, h.logA, h.inF, h.ok, hn⟩
/-- what is known within the append to the log -/
def LogJ (t : TypeId) (lg : Value) (m : Nat) (xs one : List Value) (sz0 : Nat) (i : Nat) (v : Value) (lo hi : Nat) (w : World) : Prop :=
  match i with
  | 6 => ∃ g, v = .slice (some ⟨g, 0, none⟩) 1 1 ∧ Blk w g t one
  | 7 => w.ownsRow 0 t 5 v (m + 1) (xs ++ one) ∧ (v.ownBlock = lg.ownBlock ∨ ∃ b, v.ownBlock = some b ∧ sz0 ≤ b)
  | _ => True
theorem LogJ.keep {t : TypeId} {lg : Value} {m : Nat} {xs one : List Value} {sz0 : Nat} (i : Nat) (v : Value) (lo hi : Nat) (w w' : World) (h : LogJ t lg m xs one sz0 i v lo hi w) (hs : Since w w') : LogJ t lg m xs one sz0 i v lo hi w' := by
  unfold LogJ at *
  split at h
  · obtain ⟨g, h1, h2⟩ := h; exact ⟨g, h1, h2.below hs⟩
  · exact ⟨own_below h.1 hs, h.2⟩
  · trivial

set_option maxHeartbeats 4000000 in
theorem ref08Program_any {w : World} {F : Nat → Prop} {r : Nat} {g : Geo} {S : NSt} {m : Nat} (H : RNAt w F r g S m) (hm : m ≤ 1000000) (hI : NInv g S) (u n page : Int) (vd vo : Value) (data oob : List (List Int))
    (hd : Sls w (Away F w.heap.size) vd data) (ho : Sls w (Away F w.heap.size) vo oob) :
    Calls Try.prog 104 #[.pointer (some ⟨r, 0, none⟩), .int .i64 u, .int .i64 n, .int .i64 page, vd, vo] w fun e w' => RNPost w F r g (.int .i64 (progTo g S u n page data oob).1) (progTo g S u n page data oob).2 (m + 1) e w' := by
  have HH := Lib.hid H
  have HI := Lib.hid hI
  obtain ⟨L, n0, evs, pb, nx, wr, rt, lv, lg, H⟩ := H
  have HD := Lib.hid hd
  have HOO := Lib.hid ho
  have HP : Hid (progTo g S u n page data oob = if S.off = true then (5, S) else match findIx g u n with
    | none => (1, S.bad)
    | some i => if 0 ≤ page ∧ page < g.pages ∧ sizedB data g.sectors 16 = true ∧ sizedB oob g.sectors 17 = true then
        if S.ret i = true then (10, S.bad)
        else if S.next i ≠ page then (7, S.bad)
        else (endE (nextP S.plan g.sectors).1 8, NSt.cut { S with next := fun j => if j = i then page + 1 else S.next j, plan := S.plan.tail, many := IntKind.i64.wrap (S.many + 1), sec := setPage g S.sec u n page (if (nextP S.plan g.sectors).1 = 0 then g.sectors else (nextP S.plan g.sectors).2) data oob } (nextP S.plan g.sectors).1)
      else (1, S.bad)) := Lib.hid rfl
  obtain ⟨ad, cd, rfl, hd1, hd2, _⟩ := hd
  obtain ⟨ao, co, rfl, ho1, ho2, _⟩ := ho
  obtain ⟨R, hR⟩ : ∃ R, progTo g S u n page data oob = R := ⟨_, rfl⟩
  rw [hR] at HP
  rw [hR]
  clear hR hI
  have k10 : w.cell? ⟨r, 10, none⟩ = some (.bool S.off) := H.blk.cell 10
  have hrl := H.blk.lt
  have hgo := Geo.ok_of H.ok
  have hs4 := hgo.s
  have hp32 := hgo.p
  obtain ⟨c, l, b, p, s⟩ := g
  simp only at HP hs4 hp32
  obtain ⟨hs1, hs4⟩ := hs4
  obtain ⟨sn, rfl⟩ : ∃ sn : Nat, s = sn := ⟨s.toNat, by omega⟩
  have hp32 : p ≤ 32 := hp32.2
  clear H hgo
  obtain ⟨O, hO⟩ : ∃ O, S.off = O := ⟨_, rfl⟩
  rw [hO] at k10
  by_cases hoff : O = true
  · subst hoff
    have HFIN : Hid (RNPost w F r ⟨c, l, b, p, sn⟩ (.int .i64 R.1) R.2 (m + 1) (.returned (.int .i64 5)) w) := by
      show RNPost _ _ _ _ _ _ _ _ _
      rw [HP.out, if_pos hO]
      exact RNPost.more (m := m) ⟨rfl, F, HH.out, OnlyF.refl _ _, Fresh.refl _ _⟩ (by omega)
    clear hO
    go_enter Try.func104, Try.ntmps104
    go_wp2_with fail
    go_ret
    exact HFIN.out
  obtain rfl : O = false := by simpa using hoff
  have hp2 := HP.out
  rw [if_neg (by rw [hO]; decide)] at hp2
  have HP2 := Lib.hid hp2
  have HOF := Lib.hid hO
  clear hO hoff HP hp2
  go_enter Try.func104, Try.ntmps104
  (go_wp2_with fail); refine (ref08At_any HH.out u n).mono ?_
  rintro e w1 ⟨rfl, hb⟩
  have H1 := Lib.hid (HH.out.below hb)
  have HO1 := Lib.hid (OnlyF.below (F := F) hb)
  have HD1 := Lib.hid (HD.out.below hb)
  have HE1 := Lib.hid (HOO.out.below hb)
  clear hb k10
  cases hf : findIx ⟨c, l, b, p, sn⟩ u n with
  | none =>
    have HRX : Hid (R = (1, S.bad)) := by show _ = _; rw [HP2.out, hf]
    clear hf HP2
    simp only [atI]
    (go_wp2_with fail); refine (ref08Wrong_any H1.out 1).mono ?_
    intro e w9 hp
    obtain ⟨rfl, hq⟩ := hp
    have HFIN : Hid (RNPost w F r ⟨c, l, b, p, sn⟩ (.int .i64 R.1) R.2 (m + 1) (.returned (.int .i64 1)) w9) := by
      show RNPost _ _ _ _ _ _ _ _ _
      rw [HRX.out]
      exact RNPost.from (F1 := F) (RNPost.more (m := m) ⟨rfl, hq⟩ (by omega)) HO1.out (Fresh.refl _ _)
    clear hq
    go_wp2_with fail
    go_ret
    exact HFIN.out
  | some i =>
    have HR2 := HP2.out
    rw [hf] at HR2
    simp only at HR2
    have HR := Lib.hid HR2
    have hilt := findIx_lt hf
    have HILT := Lib.hid hilt
    have HFX := Lib.hid hf
    obtain ⟨L, n0, evs, pb, nx, wrr, rt, lv, lg, h1⟩ := H1.out
    have hN := (Geo.nb_le h1.ok).1
    obtain ⟨⟨x0, y0⟩, ⟨x1, y1⟩, x2, y2⟩ := h1.nxs i hilt
    have hbl0 := World.block_lt_of_cell? w1 _ x0
    have hbl1 := World.block_lt_of_cell? w1 _ x1
    have hbl2 := World.block_lt_of_cell? w1 _ x2
    have r3 : w1.cell? ⟨r, 3, none⟩ = some (.int .i64 p) := h1.blk.cell 3
    have r4 : w1.cell? ⟨r, 4, none⟩ = some (.int .i64 (sn : Int)) := h1.blk.cell 4
    have r7 : w1.cell? ⟨r, 7, none⟩ = some (.slice (some ⟨nx, 0, none⟩) (Geo.nb ⟨c, l, b, p, sn⟩) (Geo.nb ⟨c, l, b, p, sn⟩)) := h1.blk.cell 7
    have r9 : w1.cell? ⟨r, 9, none⟩ = some (.slice (some ⟨rt, 0, none⟩) (Geo.nb ⟨c, l, b, p, sn⟩) (Geo.nb ⟨c, l, b, p, sn⟩)) := h1.blk.cell 9
    have hrl1 := h1.blk.lt
    have HRW := Lib.hid h1
    obtain ⟨N, hNN⟩ : ∃ N, Geo.nb ⟨c, l, b, p, sn⟩ = N := ⟨_, rfl⟩
    have HNN := Lib.hid hNN
    rw [hNN] at hilt r7 r9 hN
    have hi0 : (0 : Int) ≤ i := by omega
    have hi1 : (i : Int) < N := by omega
    clear HR2 hf HP2 h1 hNN
    simp only [atI]
    by_cases hp0 : page < 0
    · have HRX : Hid (R = (1, S.bad)) := by show _ = _; rw [HR.out, if_neg (by omega)]
      clear HRW
      (go_wp2_with fail); refine (ref08Wrong_any H1.out 1).mono ?_
      intro e w9 hp
      obtain ⟨rfl, hq⟩ := hp
      have HFIN : Hid (RNPost w F r ⟨c, l, b, p, sn⟩ (.int .i64 R.1) R.2 (m + 1) (.returned (.int .i64 1)) w9) := by
        show RNPost _ _ _ _ _ _ _ _ _
        rw [HRX.out]
        exact RNPost.from (F1 := F) (RNPost.more (m := m) ⟨rfl, hq⟩ (by omega)) HO1.out (Fresh.refl _ _)
      clear hq
      go_wp2_with fail
      go_ret
      exact HFIN.out
    by_cases hp1 : p ≤ page
    · have HRX : Hid (R = (1, S.bad)) := by show _ = _; rw [HR.out, if_neg (by omega)]
      clear HRW
      (go_wp2_with fail); refine (ref08Wrong_any H1.out 1).mono ?_
      intro e w9 hp
      obtain ⟨rfl, hq⟩ := hp
      have HFIN : Hid (RNPost w F r ⟨c, l, b, p, sn⟩ (.int .i64 R.1) R.2 (m + 1) (.returned (.int .i64 1)) w9) := by
        show RNPost _ _ _ _ _ _ _ _ _
        rw [HRX.out]
        exact RNPost.from (F1 := F) (RNPost.more (m := m) ⟨rfl, hq⟩ (by omega)) HO1.out (Fresh.refl _ _)
      clear hq
      go_wp2_with fail
      go_ret
      exact HFIN.out
    obtain ⟨SD, hSD⟩ : ∃ x, sizedB data (sn : Int) 16 = x := ⟨_, rfl⟩
    obtain ⟨SO, hSO⟩ : ∃ x, sizedB oob (sn : Int) 17 = x := ⟨_, rfl⟩
    have HSD := Lib.hid hSD
    have HSO := Lib.hid hSO
    rw [hSD, hSO] at HR
    clear hSD hSO
    (go_wp2_with fail); refine (ref08Sized_any _ data _ HD1.out sn 16).mono ?_
    rintro e w2 ⟨rfl, rfl⟩
    rw [HSD.out]
    cases SD with
    | false =>
      have HRX : Hid (R = (1, S.bad)) := by show _ = _; rw [HR.out, if_neg (fun h => absurd h.2.2.1 (by decide))]
      clear HRW
      (go_wp2_with fail); refine (ref08Wrong_any H1.out 1).mono ?_
      intro e w9 hp
      obtain ⟨rfl, hq⟩ := hp
      have HFIN : Hid (RNPost w F r ⟨c, l, b, p, sn⟩ (.int .i64 R.1) R.2 (m + 1) (.returned (.int .i64 1)) w9) := by
        show RNPost _ _ _ _ _ _ _ _ _
        rw [HRX.out]
        exact RNPost.from (F1 := F) (RNPost.more (m := m) ⟨rfl, hq⟩ (by omega)) HO1.out (Fresh.refl _ _)
      clear hq
      go_wp2_with fail
      go_ret
      exact HFIN.out
    | true =>
      (go_wp2_with fail); refine (ref08Sized_any _ oob _ HE1.out sn 17).mono ?_
      rintro e w2 ⟨rfl, rfl⟩
      rw [HSO.out]
      cases SO with
      | false =>
        have HRX : Hid (R = (1, S.bad)) := by show _ = _; rw [HR.out, if_neg (fun h => absurd h.2.2.2 (by decide))]
        clear HRW
        (go_wp2_with fail); refine (ref08Wrong_any H1.out 1).mono ?_
        intro e w9 hp
        obtain ⟨rfl, hq⟩ := hp
        have HFIN : Hid (RNPost w F r ⟨c, l, b, p, sn⟩ (.int .i64 R.1) R.2 (m + 1) (.returned (.int .i64 1)) w9) := by
          show RNPost _ _ _ _ _ _ _ _ _
          rw [HRX.out]
          exact RNPost.from (F1 := F) (RNPost.more (m := m) ⟨rfl, hq⟩ (by omega)) HO1.out (Fresh.refl _ _)
        clear hq
        go_wp2_with fail
        go_ret
        exact HFIN.out
      | true =>
        have HR2 := HR.out
        rw [if_pos ⟨by omega, by omega, by simp, by simp⟩] at HR2
        clear HR
        have HR := Lib.hid HR2
        clear HR2
        obtain ⟨RT, hRT⟩ : ∃ x, S.ret i = x := ⟨_, rfl⟩
        rw [hRT] at x2 HR
        clear hRT
        cases RT with
        | true =>
          have HRX : Hid (R = (10, S.bad)) := by show _ = _; rw [HR.out, if_pos rfl]
          clear HRW
          (go_wp2_with fail); refine (ref08Wrong_any H1.out 10).mono ?_
          intro e w9 hp
          obtain ⟨rfl, hq⟩ := hp
          have HFIN : Hid (RNPost w F r ⟨c, l, b, p, sn⟩ (.int .i64 R.1) R.2 (m + 1) (.returned (.int .i64 10)) w9) := by
            show RNPost _ _ _ _ _ _ _ _ _
            rw [HRX.out]
            exact RNPost.from (F1 := F) (RNPost.more (m := m) ⟨rfl, hq⟩ (by omega)) HO1.out (Fresh.refl _ _)
          clear hq
          go_wp2_with fail
          go_ret
          exact HFIN.out
        | false =>
          have HR2 := HR.out
          rw [if_neg (by decide)] at HR2
          clear HR
          have HR := Lib.hid HR2
          clear HR2
          by_cases hnx : S.next i = page
          · have HR2 := HR.out
            rw [if_neg (fun h => h hnx)] at HR2
            clear HR
            have HR := Lib.hid HR2
            have HNX := Lib.hid hnx
            rw [hnx] at x0
            clear HR2 hnx
            have hwp : IntKind.i64.wrap (page + 1) = page + 1 := wrap_in _ ⟨by omega, by omega⟩
            have hlen : data.length = sn ∧ oob.length = sn := by
              have h1 := HSD.out
              have h2 := HSO.out
              unfold sizedB at h1 h2
              rw [decide_eq_true_eq] at h1 h2
              exact ⟨by omega, by omega⟩
            have HLEN := Lib.hid hlen
            have HLX : Hid ((∀ x ∈ data, x.length = 16) ∧ (∀ x ∈ oob, x.length = 17)) := by
              have h1 := HSD.out
              have h2 := HSO.out
              unfold sizedB at h1 h2
              rw [decide_eq_true_eq] at h1 h2
              exact ⟨fun x hx => by have := h1.1 x hx; omega, fun x hx => by have := h2.1 x hx; omega⟩
            clear hlen
            have H2 := Lib.hid (HRW.out.setNext HILT.out (page + 1))
            have HO2 := Lib.hid (HO1.out.setCell (p := ⟨nx, i, none⟩) HRW.out.mem.2.2.1 (.int .i64 (page + 1)))
            have hap := HRW.out.apart.2.1
            go_wp2_with fail
            generalize hwa : w1.setCell ⟨nx, i, none⟩ (.int .i64 (page + 1)) = wa at H2 HO2 ⊢
            have h2 := H2.out
            have hblk2 := h2.blk
            have a4 : wa.cell? ⟨r, 4, none⟩ = some (.int .i64 (sn : Int)) := hblk2.cell 4
            have a5 : wa.cell? ⟨r, 5, none⟩ = some (.pointer (some ⟨pb, 0, none⟩)) := hblk2.cell 5
            have hdl := hblk2.lt
            have hdp := h2.apart.1
            have hpl2 : S.plan = L.drop n0 := h2.plan
            have hle := nextP_le (p := S.plan) (by rw [hpl2]; exact fun x hx => h2.leftB x (List.mem_of_mem_drop hx)) (s := sn) (by omega)
            have hsays := nextP_says (p := S.plan) (by rw [hpl2]; exact fun x hx => h2.leftB x (List.mem_of_mem_drop hx)) sn
            obtain ⟨r2, hr2⟩ : ∃ x, nextP S.plan (sn : Int) = x := ⟨_, rfl⟩
            rw [hr2] at hle hsays
            have HR3 := HR.out
            simp only [hr2] at HR3
            clear HR
            have HR := Lib.hid HR3
            clear HR3
            obtain ⟨sy, kp⟩ := r2
            simp only at hle hsays HR
            have HR2N : Hid (nextP (L.drop n0) (sn : Int) = (sy, kp)) := by show _ = _; rw [← hpl2, hr2]
            have HPL2 := Lib.hid hpl2
            clear hr2 hpl2 x0 y0 x1 y1 x2 y2 h2 hblk2 r3 r4 r7 r9 hwa
            refine wp_region_g 14 [(9, []), (10, [9]), (11, [10]), (12, [10]), (13, [11])] 9 (fun q wz => OnlyF (fun k => k = pb) wa wz ∧ (q = false → RNRaw wz F r ⟨c, l, b, p, sn⟩ { S with next := fun x => if x = i then page + 1 else S.next x } m L n0 evs pb nx wrr rt lv lg) ∧ (q = true → RNRaw wz F r ⟨c, l, b, p, sn⟩ { S with next := fun x => if x = i then page + 1 else S.next x, plan := S.plan.tail, many := IntKind.i64.wrap (S.many + 1) } (m + 1) L (n0 + 1) evs pb nx wrr rt lv lg)) (PlanJ sy kp) [?_, ?_, ?_, ?_, ?_, ?_, ?_, ?_, ?_, undef, undef, undef, undef, undef] (by kernel_rfl) (by kernel_rfl) (by kernel_rfl) ⟨(OnlyF.refl _ wa).drew, fun _ => H2.out.below ((Below.refl wa.heap.size wa).drew), fun h => by cases h⟩ (fun b x y h1 h2 => ⟨h1.1.step h2, fun e => (h1.2.1 e).below h2, fun e => (h1.2.2 e).below h2⟩) PlanJ.keep ?_
            rotate_left 9
            simp only [List.take_succ_cons, List.take_zero, List.drop_succ_cons, List.drop_zero]
            refine SeqT.run (v := ?_) rfl rfl (fun _ wz hz => ?_) ?_ ?_; rotate_left; (have hzc := hz.1.cellD hdp hdl; go_simp; first | exact UponS.value (Since.refl _) | exact UponS.skip (Since.refl _)); (exact rfl); (try simp only [Act.put, List.setIfInBounds_toArray, List.set_cons_zero, List.set_cons_succ])
            refine SeqT.run (v := ?_) rfl rfl (fun _ wz hz => ?_) ?_ ?_; rotate_left; (have hzc := hz.1.cellD hdp hdl; go_simp; first | exact UponS.value (Since.refl _) | exact UponS.skip (Since.refl _)); (exact rfl); (try simp only [Act.put, List.setIfInBounds_toArray, List.set_cons_zero, List.set_cons_succ])
            refine SeqT.run (v := ?_) rfl rfl (fun _ wz hz => ?_) ?_ ?_; rotate_left; (have hzc := hz.1.cellD hdp hdl; go_simp; first | exact UponS.value (Since.refl _) | exact UponS.skip (Since.refl _)); (exact rfl); (try simp only [Act.put, List.setIfInBounds_toArray, List.set_cons_zero, List.set_cons_succ])
            refine SeqT.run (v := ?_) rfl rfl (fun _ wz hz => ?_) ?_ ?_; rotate_left; (have hzc := hz.1.cellD hdp hdl; go_simp; first | exact UponS.value (Since.refl _) | exact UponS.skip (Since.refl _)); (exact rfl); (try simp only [Act.put, List.setIfInBounds_toArray, List.set_cons_zero, List.set_cons_succ])
            refine SeqT.run (v := ?_) rfl rfl (fun _ wz hz => ?_) ?_ ?_; rotate_left; (have hzc := hz.1.cellD hdp hdl; go_simp; first | exact UponS.value (Since.refl _) | exact UponS.skip (Since.refl _)); (exact rfl); (try simp only [Act.put, List.setIfInBounds_toArray, List.set_cons_zero, List.set_cons_succ])
            refine SeqT.run (v := ?_) rfl rfl (fun _ wz hz => ?_) ?_ ?_; rotate_left; (have hzc := hz.1.cellD hdp hdl; go_simp; first | exact UponS.value (Since.refl _) | exact UponS.skip (Since.refl _)); (exact rfl); (try simp only [Act.put, List.setIfInBounds_toArray, List.set_cons_zero, List.set_cons_succ])
            refine SeqT.run (v := ?_) rfl rfl (fun _ wz hz => ?_) ?_ ?_; rotate_left; (have hzc := hz.1.cellD hdp hdl; go_simp; first | exact UponS.value (Since.refl _) | exact UponS.skip (Since.refl _)); (exact rfl); (try simp only [Act.put, List.setIfInBounds_toArray, List.set_cons_zero, List.set_cons_succ])
            refine SeqT.run (v := ?_) rfl rfl (fun _ wz hz => ?_) ?_ ?_; rotate_left; (have hzc := hz.1.cellD hdp hdl; go_simp; first | exact UponS.value (Since.refl _) | exact UponS.skip (Since.refl _)); (exact rfl); (try simp only [Act.put, List.setIfInBounds_toArray, List.set_cons_zero, List.set_cons_succ])
            refine SeqT.run (v := ?_) rfl rfl (fun _ wz hz => ?_) ?_ ?_; rotate_left; (have hzc := hz.1.cellD hdp hdl; go_simp; first | exact UponS.value (Since.refl _) | exact UponS.skip (Since.refl _)); (exact rfl); (try simp only [Act.put, List.setIfInBounds_toArray, List.set_cons_zero, List.set_cons_succ])
            refine SeqT.write rfl rfl rfl (fun wz hz hd => ?_) (fun v9 _ _ => ?_)
            · have hzc := hz.1.cellD hdp hdl
              have h2 := hz.2.1 rfl
              have hzo := Lib.hid hz.1
              clear hz hd
              go_simp
              refine UponT.call ?_
              go_at_call 122
              refine (ref07Next_any h2.pl h2.left (fun h => h.2.2.1 rfl) h2.leftB (by have := h2.few.1; omega) sn ⟨by omega, by omega⟩).mono ?_
              intro e wy hp
              obtain ⟨rfl, hpb, hpo⟩ := hp
              have h4 := (h2.more (Nat.le_succ m)).blockP hpo.size (fun k hk hne => hpo.block k hk hne) (n' := n0 + 1) (pl := S.plan.tail) (mny := IntKind.i64.wrap (S.many + 1)) (by have := h2.few.1; omega) (by rw [HPL2.out, List.tail_drop]) hpb
              refine ⟨_, rfl, by show _ = _; rw [show nextP _ _ = _ from HR2N.out], hzo.out.trans (Fresh.refl _ _) hpo, h4⟩
            (try simp only [Act.put, List.setIfInBounds_toArray, List.set_cons_zero, List.set_cons_succ])
            refine SeqT.tie rfl (by decide) rfl (fun wz hz hd => ?_) (fun v10 _ _ => ?_)
            · obtain rfl : v9 = .tuple #[.int .i64 sy, .int .i64 kp] := hd.all 9 (by decide) v9 _ _ rfl
              clear hz hd
              go_simp
              exact UponT.value ⟨rfl, Since.refl _⟩
            (try simp only [Act.put, List.setIfInBounds_toArray, List.set_cons_zero, List.set_cons_succ])
            refine SeqT.tie rfl (by decide) rfl (fun wz hz hd => ?_) (fun v11 _ _ => ?_)
            · obtain rfl : v10 = .tuple #[.int .i64 sy, .int .i64 kp] := hd.all 10 (by decide) v10 _ _ rfl
              clear hz hd
              go_simp
              exact UponT.value ⟨rfl, Since.refl _⟩
            (try simp only [Act.put, List.setIfInBounds_toArray, List.set_cons_zero, List.set_cons_succ])
            refine SeqT.tie rfl (by decide) rfl (fun wz hz hd => ?_) (fun v12 _ _ => ?_)
            · obtain rfl : v10 = .tuple #[.int .i64 sy, .int .i64 kp] := hd.all 10 (by decide) v10 _ _ rfl
              clear hz hd
              go_simp
              exact UponT.value ⟨rfl, Since.refl _⟩
            (try simp only [Act.put, List.setIfInBounds_toArray, List.set_cons_zero, List.set_cons_succ])
            refine SeqT.tie rfl (by decide) rfl (fun wz hz hd => ?_) (fun v13 _ _ => ?_)
            · obtain rfl : v11 = .int .i64 sy := hd.all 11 (by decide) v11 _ _ rfl
              clear hz hd
              go_simp
              exact UponT.value ⟨rfl, Since.refl _⟩
            (try simp only [Act.put, List.setIfInBounds_toArray, List.set_cons_zero, List.set_cons_succ])
            intro w4 hz hi
            obtain rfl : v13 = .int .i64 sy := hi.all 13 v13 _ _ rfl
            obtain rfl : v11 = .int .i64 sy := hi.all 11 v11 _ _ rfl
            obtain rfl : v12 = .int .i64 kp := hi.all 12 v12 _ _ rfl
            have h4 := hz.2.2 rfl
            have HO4 := Lib.hid (HO2.out.trans (Fresh.refl F _) (hz.1.mono fun k hk => hk ▸ H2.out.mem.2.1))
            have H4 := Lib.hid h4
            have b4 : w4.cell? ⟨r, 4, none⟩ = some (.int .i64 (sn : Int)) := h4.blk.cell 4
            have hrl4 := h4.blk.lt
            have HE0 : Hid (EvLoc (w4.alloc (.cells #[.int .i64 u, .int .i64 n, .int .i64 page, .slice none 0 0, .slice none 0 0] 178)) w4.heap.size w4.heap.size u n page (.slice none 0 0) (.slice none 0 0) [] []) := ⟨Blk.new w4 _ [_, _, _, _, _], RowsAt.nil _ _ _ _, RowsAt.nil _ _ _ _, ⟨.inl rfl, .inl rfl⟩⟩
            have HB0 : Hid (Below w4.heap.size w4 (w4.alloc (.cells #[.int .i64 u, .int .i64 n, .int .i64 page, .slice none 0 0, .slice none 0 0] 178))) := Lib.hid ((Below.refl _ _).alloc (Nat.le_refl _) _)
            have hsw4 := HO4.out.size
            clear hz hi h4 a4 a5 hdl
            obtain ⟨hk0, hk1⟩ := hle
            rcases hsays with rfl | rfl | rfl
            · have HKS : Hid (sn ≤ sn) := Nat.le_refl _
              have HR3 := HR.out
              rw [if_pos rfl] at HR3
              clear HR
              have HR := Lib.hid HR3
              clear HR3
              go_wp2_with fail
              go_loopw [17] (fun t wr => ∃ (j : Nat) (vd vo : Value), j ≤ sn ∧ t = .int .i64 j ∧ Hid (EvLoc wr w4.heap.size w4.heap.size u n page vd vo (data.take j) (oob.take j)) ∧ Hid (Below w4.heap.size w4 wr)) (fun t _ => ((sn : Int) - intOf t).toNat)
              case atStart => exact ⟨0, _, _, Nat.zero_le _, rfl, HE0.out, HB0.out⟩
              case round =>
                obtain ⟨j, vd, vo, hj, rfl, HEr, HBr⟩ := hrel
                by_cases hlt : j < sn
                · have hjs : j < sn := by have := HKS.out; omega
                  obtain ⟨x, hx⟩ : ∃ x, data[j]? = some x := ⟨_, List.getElem?_eq_getElem (by rw [HLEN.out.1]; omega)⟩
                  obtain ⟨y, hy⟩ : ∃ y, oob[j]? = some y := ⟨_, List.getElem?_eq_getElem (by rw [HLEN.out.2]; omega)⟩
                  have HX := Lib.hid hx
                  have HY := Lib.hid hy
                  have HXL := Lib.hid (HLX.out.1 x (List.mem_of_getElem? hx))
                  have HYL := Lib.hid (HLX.out.2 y (List.mem_of_getElem? hy))
                  have hj0 : (0 : Int) ≤ j := by omega
                  have hdl := HLEN.out.1
                  have hol := HLEN.out.2
                  clear hx hy
                  go_wp2_with fail
                  obtain ⟨gb, go, gua, guc, hge, hgq, hgl, hgc, hgs⟩ := (HD.out.away (HO4.out.step HBr.out)).getQ HX.out
                  subst hge
                  have hgs := Lib.hid hgs.sl
                  obtain ⟨row, hrow, hrow2⟩ := HEr.out.d
                  have hrl' : row.length = (List.take j data).length := by have := hrow.1; omega
                  rw [← hrl'] at hrow
                  have HRO := Lib.hid hrow
                  have HRO2 := Lib.hid hrow2
                  have hrl'' : row.length ≤ 4 := by rw [hrl', List.length_take]; omega
                  have hne : (vd).ownBlock ≠ some w4.heap.size := own_ne_blk hrow HEr.out.blk (by decide)
                  have hnd : (vd).ownBlock ≠ some gb := fun e => by have h1 := (hrow.lt gb e).1; have h2 := hgq.2; omega
                  have hce : wr.cell? ⟨w4.heap.size, 3, none⟩ = some vd := HEr.out.blk.cell 3
                  have hcd : wr.cell? ⟨gb, go + j, none⟩ = some (.slice gua (x).length guc) := hgc
                  have hsW := HBr.out.size
                  have hjd : (j : Int) < (data).length := by omega
                  have HRL := Lib.hid hrl'
                  clear hrow hrow2 hgc hgq hrl'
                  obtain ⟨i0, hif, hz0, hz1', hz2'⟩ := info_parts info_u8
                  obtain ⟨i1, hif1, hy0, hy1, hy2⟩ := info_parts info_u8s
                  refine wp_region_g 11 [(2, []), (7, [2]), (8, [7]), (9, [8])] 9 (fun q wz => wr.grownBy wz (vd).ownBlock ∧ (q = false → Since (wr).drew wz)) (CopyJ 5 45 w4.heap.size vd row x (wr).heap.size) [?_, ?_, undef, ?_, ?_, ?_, ?_, undef, undef, undef, ?_] (by kernel_rfl) (by kernel_rfl) (by kernel_rfl) ⟨grown_of_below (Below.refl _ _).drew _, fun _ => Since.refl _⟩ (fun b x y h1 h2 => ⟨grownBy_trans h1.1 (grown_of_below h2 _), fun e => (h1.2 e).trans h2⟩) CopyJ.keep ?_
                  rotate_left 7
                  simp only [List.take_succ_cons, List.take_zero, List.drop_succ_cons, List.drop_zero]
                  refine SeqT.run (v := ?_) rfl rfl (fun _ wz hz => ?_) ?_ ?_; rotate_left; (have hz1 := hz.1.cell hce (fun e => hne e.symm); have hz2 := hz.1.cell hcd (fun e => hnd e.symm); go_simp; first | exact UponS.value (Since.refl _) | exact UponS.skip (Since.refl _)); (exact rfl); (try simp only [Act.put, List.setIfInBounds_toArray, List.set_cons_zero, List.set_cons_succ])
                  refine SeqT.run (v := ?_) rfl rfl (fun _ wz hz => ?_) ?_ ?_; rotate_left; (have hz1 := hz.1.cell hce (fun e => hne e.symm); have hz2 := hz.1.cell hcd (fun e => hnd e.symm); go_simp; first | exact UponS.value (Since.refl _) | exact UponS.skip (Since.refl _)); (exact rfl); (try simp only [Act.put, List.setIfInBounds_toArray, List.set_cons_zero, List.set_cons_succ])
                  refine SeqT.tie rfl (by decide) rfl (fun wz hz hd => ?_) (fun v2 _ _ => ?_)
                  · have hzs := hz.1.size
                    clear hd hz
                    go_simp
                    exact UponT.value ⟨⟨wz.heap.size, rfl, by omega, Blk.new wz 5 []⟩, (Below.refl _ _).alloc (Nat.le_refl _) _⟩
                  (try simp only [Act.put, List.setIfInBounds_toArray, List.set_cons_zero, List.set_cons_succ])
                  refine SeqT.run (v := ?_) rfl rfl (fun _ wz hz => ?_) ?_ ?_; rotate_left; (have hz1 := hz.1.cell hce (fun e => hne e.symm); have hz2 := hz.1.cell hcd (fun e => hnd e.symm); go_simp; first | exact UponS.value (Since.refl _) | exact UponS.skip (Since.refl _)); (exact rfl); (try simp only [Act.put, List.setIfInBounds_toArray, List.set_cons_zero, List.set_cons_succ])
                  refine SeqT.run (v := ?_) rfl rfl (fun _ wz hz => ?_) ?_ ?_; rotate_left; (have hz1 := hz.1.cell hce (fun e => hne e.symm); have hz2 := hz.1.cell hcd (fun e => hnd e.symm); go_simp; first | exact UponS.value (Since.refl _) | exact UponS.skip (Since.refl _)); (exact rfl); (try simp only [Act.put, List.setIfInBounds_toArray, List.set_cons_zero, List.set_cons_succ])
                  refine SeqT.run (v := ?_) rfl rfl (fun _ wz hz => ?_) ?_ ?_; rotate_left; (have hz1 := hz.1.cell hce (fun e => hne e.symm); have hz2 := hz.1.cell hcd (fun e => hnd e.symm); go_simp; first | exact UponS.value (Since.refl _) | exact UponS.skip (Since.refl _)); (exact rfl); (try simp only [Act.put, List.setIfInBounds_toArray, List.set_cons_zero, List.set_cons_succ])
                  refine SeqT.run (v := ?_) rfl rfl (fun _ wz hz => ?_) ?_ ?_; rotate_left; (have hz1 := hz.1.cell hce (fun e => hne e.symm); have hz2 := hz.1.cell hcd (fun e => hnd e.symm); go_simp; first | exact UponS.value (Since.refl _) | exact UponS.skip (Since.refl _)); (exact rfl); (try simp only [Act.put, List.setIfInBounds_toArray, List.set_cons_zero, List.set_cons_succ])
                  refine SeqT.tie rfl (by decide) rfl (fun wz hz hd => ?_) (fun v7 _ _ => ?_)
                  · obtain ⟨g0, rfl, hg0, hk0'⟩ := hd.all 2 (by decide) v2 _ _ rfl
                    obtain ⟨v', w', hr, ho, hs⟩ := run_append_fresh (P := Try.prog) w4.heap.size 45 45 5 _ (.int .u8 0) 1 Try.underlying45 hif hz0 hz1' hz2' rfl g0 hg0 (by have := hz.1.size; omega) hk0' 0 (.slice gua (x).length guc) (bv x) (hgs.out.below ((Below.refl _ _).drew.trans (hz.2 rfl).below)) (by rw [bv_length, HXL.out]; unfold maxLen; omega) (by rw [bv_length, HXL.out]; omega)
                    rw [bv_length] at ho
                    exact UponT.append _ _ _ _ _ _ rfl rfl rfl hr ⟨ho, hs⟩
                  (try simp only [Act.put, List.setIfInBounds_toArray, List.set_cons_zero, List.set_cons_succ])
                  refine SeqT.tie rfl (by decide) rfl (fun wz hz hd => ?_) (fun v8 _ _ => ?_)
                  · have h7 : wz.ownsRow w4.heap.size 5 1 v7 (x).length (bv x) := hd.all 7 (by decide) v7 _ _ rfl
                    obtain ⟨q1, q2, rfl⟩ := own_slice h7
                    have HJ : Hid (CopyJ 5 45 w4.heap.size vd row x (wr).heap.size 8 (.slice (some ⟨wz.heap.size, 0, none⟩) 1 1) wz.heap.size (wz.heap.size + 1) (wz.alloc (.cells #[.slice q1 (x).length q2] 45))) := Lib.hid ⟨_, _, rfl, Blk.new wz 45 [_], h7.alloc _⟩
                    clear hd h7 hz
                    go_simp
                    exact UponT.value ⟨HJ.out, (Below.refl _ _).alloc (Nat.le_refl _) _⟩
                  (try simp only [Act.put, List.setIfInBounds_toArray, List.set_cons_zero, List.set_cons_succ])
                  refine SeqT.write rfl rfl rfl (fun wz hz hd => ?_) (fun v9 _ _ => ?_)
                  · obtain ⟨g8, vx, rfl, hk8, hx8⟩ := hd.all 8 (by decide) v8 _ _ rfl
                    obtain ⟨q1, q2, rfl⟩ := own_slice hx8
                    have hown := own_below HRO.out ((Below.refl _ _).drew.trans (hz.2 rfl).below)
                    obtain ⟨v', w', hr, ho, hg, hat⟩ := run_append_lit (P := Try.prog) w4.heap.size 41 41 45 i1 (.slice none 0 0) 1 24 Try.underlying41 hif1 hy0 hy1 hy2 rfl (by decide) vd row.length row hown g8 _ hk8 rfl (oneCell_slice _ _ _) (by unfold maxLen; omega) (by omega) (by have := hz.1.size; omega)
                    refine UponT.append _ _ _ _ _ _ rfl rfl rfl hr ⟨⟨_, ho, hx8.kept hg (own_ne_own hx8 hown (by decide)), ?_⟩, grownBy_trans hz.1 hg, fun e => by (cases e)⟩
                    rcases hat with hat | hat
                    · exact .inl hat
                    · exact .inr ⟨_, hat, hz.1.size⟩
                  (try simp only [Act.put, List.setIfInBounds_toArray, List.set_cons_zero, List.set_cons_succ])
                  refine SeqT.run (v := ?_) rfl rfl (fun _ wz hz => ?_) ?_ ?_; rotate_left; (have hz1 := hz.1.cell hce (fun e => hne e.symm); have hz2 := hz.1.cell hcd (fun e => hnd e.symm); go_simp; first | exact UponS.value (Since.refl _) | exact UponS.skip (Since.refl _)); (exact rfl); (try simp only [Act.put, List.setIfInBounds_toArray, List.set_cons_zero, List.set_cons_succ])
                  intro wb hz hi
                  obtain ⟨vx, ho, hx, hat⟩ := hi.all 9 v9 _ _ rfl
                  obtain ⟨g9, c9, rfl⟩ := own_form ho (by omega)
                  have hEv := HEr.out.stepD (by rw [← HRL.out]; exact HRO.out) HRO2.out hz.1 ho hx hat
                  have hbb : Blk wb w4.heap.size 178 _ := HEr.out.blk.grown hz.1 hne
                  have hcb := hbb.cell 3
                  have hfb := hbb.free 3
                  have hlb := hbb.lt
                  have hBn : Below w4.heap.size w4 (wb.setCell ⟨w4.heap.size, 3, none⟩ (.slice (some ⟨g9, 0, none⟩) (row.length + 1) c9)) := ((HBr.out).grown hz.1 hsW (fun k e => (HRO.out.lt k e).1)).setCell (p := ⟨w4.heap.size, 3, none⟩) (Nat.le_refl _) _
                  have HEc := Lib.hid hEv
                  have HBc := Lib.hid hBn
                  clear hEv hBn hbb hz hi ho hx hat HRO HRO2 hgs hce hcd hne hnd hgl hrl'' hsW hjd hif hz0 hz1' hz2' hif1 hy0 hy1 hy2 HRL
                  go_wp2_with fail
                  clear hcb hfb hlb
                  generalize wb.setCell ⟨w4.heap.size, 3, none⟩ (.slice (some ⟨g9, 0, none⟩) (row.length + 1) c9) = wc at HEc HBc ⊢
                  generalize Value.slice (some ⟨g9, 0, none⟩) (row.length + 1) c9 = vd at HEc
                  obtain ⟨gb, go, gua, guc, hge, hgq, hgl, hgc, hgs⟩ := (HOO.out.away (HO4.out.step HBc.out)).getQ HY.out
                  subst hge
                  have hgs := Lib.hid hgs.sl
                  obtain ⟨row, hrow, hrow2⟩ := HEc.out.o
                  have hrl' : row.length = (List.take j oob).length := by have := hrow.1; omega
                  rw [← hrl'] at hrow
                  have HRO := Lib.hid hrow
                  have HRO2 := Lib.hid hrow2
                  have hrl'' : row.length ≤ 4 := by rw [hrl', List.length_take]; omega
                  have hne : (vo).ownBlock ≠ some w4.heap.size := own_ne_blk hrow HEc.out.blk (by decide)
                  have hnd : (vo).ownBlock ≠ some gb := fun e => by have h1 := (hrow.lt gb e).1; have h2 := hgq.2; omega
                  have hce : wc.cell? ⟨w4.heap.size, 4, none⟩ = some vo := HEc.out.blk.cell 4
                  have hcd : wc.cell? ⟨gb, go + j, none⟩ = some (.slice gua (y).length guc) := hgc
                  have hsW := HBc.out.size
                  have hjd : (j : Int) < (oob).length := by omega
                  have HRL := Lib.hid hrl'
                  clear hrow hrow2 hgc hgq hrl'
                  obtain ⟨i0, hif, hz0, hz1', hz2'⟩ := info_parts info_u8
                  obtain ⟨i1, hif1, hy0, hy1, hy2⟩ := info_parts info_u8s
                  refine wp_region_g 11 [(2, []), (7, [2]), (8, [7]), (9, [8])] 9 (fun q wz => wc.grownBy wz (vo).ownBlock ∧ (q = false → Since (wc).drew wz)) (CopyJ 5 45 w4.heap.size vo row y (wc).heap.size) [?_, ?_, undef, ?_, ?_, ?_, ?_, undef, undef, undef, ?_] (by kernel_rfl) (by kernel_rfl) (by kernel_rfl) ⟨grown_of_below (Below.refl _ _).drew _, fun _ => Since.refl _⟩ (fun b x y h1 h2 => ⟨grownBy_trans h1.1 (grown_of_below h2 _), fun e => (h1.2 e).trans h2⟩) CopyJ.keep ?_
                  rotate_left 7
                  simp only [List.take_succ_cons, List.take_zero, List.drop_succ_cons, List.drop_zero]
                  refine SeqT.run (v := ?_) rfl rfl (fun _ wz hz => ?_) ?_ ?_; rotate_left; (have hz1 := hz.1.cell hce (fun e => hne e.symm); have hz2 := hz.1.cell hcd (fun e => hnd e.symm); go_simp; first | exact UponS.value (Since.refl _) | exact UponS.skip (Since.refl _)); (exact rfl); (try simp only [Act.put, List.setIfInBounds_toArray, List.set_cons_zero, List.set_cons_succ])
                  refine SeqT.run (v := ?_) rfl rfl (fun _ wz hz => ?_) ?_ ?_; rotate_left; (have hz1 := hz.1.cell hce (fun e => hne e.symm); have hz2 := hz.1.cell hcd (fun e => hnd e.symm); go_simp; first | exact UponS.value (Since.refl _) | exact UponS.skip (Since.refl _)); (exact rfl); (try simp only [Act.put, List.setIfInBounds_toArray, List.set_cons_zero, List.set_cons_succ])
                  refine SeqT.tie rfl (by decide) rfl (fun wz hz hd => ?_) (fun v2 _ _ => ?_)
                  · have hzs := hz.1.size
                    clear hd hz
                    go_simp
                    exact UponT.value ⟨⟨wz.heap.size, rfl, by omega, Blk.new wz 5 []⟩, (Below.refl _ _).alloc (Nat.le_refl _) _⟩
                  (try simp only [Act.put, List.setIfInBounds_toArray, List.set_cons_zero, List.set_cons_succ])
                  refine SeqT.run (v := ?_) rfl rfl (fun _ wz hz => ?_) ?_ ?_; rotate_left; (have hz1 := hz.1.cell hce (fun e => hne e.symm); have hz2 := hz.1.cell hcd (fun e => hnd e.symm); go_simp; first | exact UponS.value (Since.refl _) | exact UponS.skip (Since.refl _)); (exact rfl); (try simp only [Act.put, List.setIfInBounds_toArray, List.set_cons_zero, List.set_cons_succ])
                  refine SeqT.run (v := ?_) rfl rfl (fun _ wz hz => ?_) ?_ ?_; rotate_left; (have hz1 := hz.1.cell hce (fun e => hne e.symm); have hz2 := hz.1.cell hcd (fun e => hnd e.symm); go_simp; first | exact UponS.value (Since.refl _) | exact UponS.skip (Since.refl _)); (exact rfl); (try simp only [Act.put, List.setIfInBounds_toArray, List.set_cons_zero, List.set_cons_succ])
                  refine SeqT.run (v := ?_) rfl rfl (fun _ wz hz => ?_) ?_ ?_; rotate_left; (have hz1 := hz.1.cell hce (fun e => hne e.symm); have hz2 := hz.1.cell hcd (fun e => hnd e.symm); go_simp; first | exact UponS.value (Since.refl _) | exact UponS.skip (Since.refl _)); (exact rfl); (try simp only [Act.put, List.setIfInBounds_toArray, List.set_cons_zero, List.set_cons_succ])
                  refine SeqT.run (v := ?_) rfl rfl (fun _ wz hz => ?_) ?_ ?_; rotate_left; (have hz1 := hz.1.cell hce (fun e => hne e.symm); have hz2 := hz.1.cell hcd (fun e => hnd e.symm); go_simp; first | exact UponS.value (Since.refl _) | exact UponS.skip (Since.refl _)); (exact rfl); (try simp only [Act.put, List.setIfInBounds_toArray, List.set_cons_zero, List.set_cons_succ])
                  refine SeqT.tie rfl (by decide) rfl (fun wz hz hd => ?_) (fun v7 _ _ => ?_)
                  · obtain ⟨g0, rfl, hg0, hk0'⟩ := hd.all 2 (by decide) v2 _ _ rfl
                    obtain ⟨v', w', hr, ho, hs⟩ := run_append_fresh (P := Try.prog) w4.heap.size 45 45 5 _ (.int .u8 0) 1 Try.underlying45 hif hz0 hz1' hz2' rfl g0 hg0 (by have := hz.1.size; omega) hk0' 0 (.slice gua (y).length guc) (bv y) (hgs.out.below ((Below.refl _ _).drew.trans (hz.2 rfl).below)) (by rw [bv_length, HYL.out]; unfold maxLen; omega) (by rw [bv_length, HYL.out]; omega)
                    rw [bv_length] at ho
                    exact UponT.append _ _ _ _ _ _ rfl rfl rfl hr ⟨ho, hs⟩
                  (try simp only [Act.put, List.setIfInBounds_toArray, List.set_cons_zero, List.set_cons_succ])
                  refine SeqT.tie rfl (by decide) rfl (fun wz hz hd => ?_) (fun v8 _ _ => ?_)
                  · have h7 : wz.ownsRow w4.heap.size 5 1 v7 (y).length (bv y) := hd.all 7 (by decide) v7 _ _ rfl
                    obtain ⟨q1, q2, rfl⟩ := own_slice h7
                    have HJ : Hid (CopyJ 5 45 w4.heap.size vo row y (wc).heap.size 8 (.slice (some ⟨wz.heap.size, 0, none⟩) 1 1) wz.heap.size (wz.heap.size + 1) (wz.alloc (.cells #[.slice q1 (y).length q2] 45))) := Lib.hid ⟨_, _, rfl, Blk.new wz 45 [_], h7.alloc _⟩
                    clear hd h7 hz
                    go_simp
                    exact UponT.value ⟨HJ.out, (Below.refl _ _).alloc (Nat.le_refl _) _⟩
                  (try simp only [Act.put, List.setIfInBounds_toArray, List.set_cons_zero, List.set_cons_succ])
                  refine SeqT.write rfl rfl rfl (fun wz hz hd => ?_) (fun v9 _ _ => ?_)
                  · obtain ⟨g8, vx, rfl, hk8, hx8⟩ := hd.all 8 (by decide) v8 _ _ rfl
                    obtain ⟨q1, q2, rfl⟩ := own_slice hx8
                    have hown := own_below HRO.out ((Below.refl _ _).drew.trans (hz.2 rfl).below)
                    obtain ⟨v', w', hr, ho, hg, hat⟩ := run_append_lit (P := Try.prog) w4.heap.size 41 41 45 i1 (.slice none 0 0) 1 24 Try.underlying41 hif1 hy0 hy1 hy2 rfl (by decide) vo row.length row hown g8 _ hk8 rfl (oneCell_slice _ _ _) (by unfold maxLen; omega) (by omega) (by have := hz.1.size; omega)
                    refine UponT.append _ _ _ _ _ _ rfl rfl rfl hr ⟨⟨_, ho, hx8.kept hg (own_ne_own hx8 hown (by decide)), ?_⟩, grownBy_trans hz.1 hg, fun e => by (cases e)⟩
                    rcases hat with hat | hat
                    · exact .inl hat
                    · exact .inr ⟨_, hat, hz.1.size⟩
                  (try simp only [Act.put, List.setIfInBounds_toArray, List.set_cons_zero, List.set_cons_succ])
                  refine SeqT.run (v := ?_) rfl rfl (fun _ wz hz => ?_) ?_ ?_; rotate_left; (have hz1 := hz.1.cell hce (fun e => hne e.symm); have hz2 := hz.1.cell hcd (fun e => hnd e.symm); go_simp; first | exact UponS.value (Since.refl _) | exact UponS.skip (Since.refl _)); (exact rfl); (try simp only [Act.put, List.setIfInBounds_toArray, List.set_cons_zero, List.set_cons_succ])
                  intro wb hz hi
                  obtain ⟨vx, ho, hx, hat⟩ := hi.all 9 v9 _ _ rfl
                  obtain ⟨g9, c9, rfl⟩ := own_form ho (by omega)
                  have hEv := HEc.out.stepO (by rw [← HRL.out]; exact HRO.out) HRO2.out hz.1 ho hx hat
                  have hbb : Blk wb w4.heap.size 178 _ := HEc.out.blk.grown hz.1 hne
                  have hcb := hbb.cell 4
                  have hfb := hbb.free 4
                  have hlb := hbb.lt
                  have hBn : Below w4.heap.size w4 (wb.setCell ⟨w4.heap.size, 4, none⟩ (.slice (some ⟨g9, 0, none⟩) (row.length + 1) c9)) := ((HBc.out).grown hz.1 hsW (fun k e => (HRO.out.lt k e).1)).setCell (p := ⟨w4.heap.size, 4, none⟩) (Nat.le_refl _) _
                  have HEd := Lib.hid hEv
                  have HBd := Lib.hid hBn
                  clear hEv hBn hbb hz hi ho hx hat HRO HRO2 hgs hce hcd hne hnd hgl hrl'' hsW hjd hif hz0 hz1' hz2' hif1 hy0 hy1 hy2 HRL
                  go_wp2_with fail
                  clear hcb hfb hlb
                  generalize wb.setCell ⟨w4.heap.size, 4, none⟩ (.slice (some ⟨g9, 0, none⟩) (row.length + 1) c9) = wd at HEd HBd ⊢
                  generalize Value.slice (some ⟨g9, 0, none⟩) (row.length + 1) c9 = vo at HEd
                  have hEE := HEd.out
                  rw [show List.take j data ++ [x] = List.take (j + 1) data by rw [List.take_add_one, HX.out]; rfl, show List.take j oob ++ [y] = List.take (j + 1) oob by rw [List.take_add_one, HY.out]; rfl] at hEE
                  have HEE := Lib.hid hEE
                  clear hEE HEd
                  go_wp2_with fail
                  go_roundw
                  case rel => exact ⟨j + 1, _, _, by omega, by go_num, HEE.out, HBd.out⟩
                  case measure => simp [intOf]; omega
                · obtain rfl : sn = j := by omega
                  have h5 := (H4.out.below HBr.out).wide (F2 := fun k => F k ∨ w4.heap.size ≤ k ∧ k < wr.heap.size) (fun k hk => .inl hk) (fun k hk => hk.elim (fun hk => Nat.lt_of_lt_of_le (H4.out.inF k hk) HBr.out.size) fun hk => hk.2)
                  have H5 := Lib.hid h5
                  have hr6 : wr.cell? ⟨r, 6, none⟩ = some lg := h5.blk.cell 6
                  have hrl5 := h5.blk.lt
                  have hrlg : lg.ownBlock ≠ some r := fun e => (h5.logA r e).1 rfl
                  have hebl : lg.ownBlock ≠ some w4.heap.size := fun e => by have := H4.out.inF _ (H4.out.mem.2.2.2.2.2 _ e); omega
                  obtain ⟨xs, hown, hev⟩ := h5.log
                  have HW := Lib.hid hown
                  have HV := Lib.hid hev
                  have e0 : wr.cell? ⟨w4.heap.size, 0, none⟩ = some (.int .i64 u) := HEr.out.blk.cell 0
                  have e1 : wr.cell? ⟨w4.heap.size, 1, none⟩ = some (.int .i64 n) := HEr.out.blk.cell 1
                  have e2 : wr.cell? ⟨w4.heap.size, 2, none⟩ = some (.int .i64 page) := HEr.out.blk.cell 2
                  have e3 : wr.cell? ⟨w4.heap.size, 3, none⟩ = some vd := HEr.out.blk.cell 3
                  have e4 : wr.cell? ⟨w4.heap.size, 4, none⟩ = some vo := HEr.out.blk.cell 4
                  have hel := HEr.out.blk.lt
                  have hfw : evs.length ≤ m := HRW.out.few.2
                  obtain ⟨_, hvd, _⟩ := HEr.out.d
                  obtain ⟨_, hvo, _⟩ := HEr.out.o
                  have hKD : (data.take sn).length = sn ∧ (oob.take sn).length = sn := by have h1 := HLEN.out; have h2 := HKS.out; rw [List.length_take, List.length_take]; omega
                  obtain ⟨vda, vdc, hvde⟩ := own_slice hvd
                  obtain ⟨voa, voc, hvoe⟩ := own_slice hvo
                  rw [hKD.1] at hvde
                  rw [hKD.2] at hvoe
                  subst hvde hvoe
                  have HKD := Lib.hid hKD
                  obtain ⟨i0, hif, hz0, hz1', hz2'⟩ := info_parts info_event
                  clear h5 hown hev hvd hvo b4 hKD
                  go_wp2_with fail
                  refine wp_region_g 10 [(6, []), (7, [6])] 7 (fun q wz => wr.grownBy wz lg.ownBlock ∧ (q = false → Since wr.drew wz)) (LogJ 178 lg evs.length xs [.int .i64 u, .int .i64 n, .int .i64 page, .slice vda sn vdc, .slice voa sn voc] wr.heap.size) [?_, ?_, ?_, ?_, ?_, ?_, undef, undef, ?_, ?_] (by kernel_rfl) (by kernel_rfl) (by kernel_rfl) ⟨grown_of_below (Below.refl _ _).drew _, fun _ => Since.refl _⟩ (fun b x y h1 h2 => ⟨grownBy_trans h1.1 (grown_of_below h2 _), fun e => (h1.2 e).trans h2⟩) LogJ.keep ?_
                  rotate_left 8
                  simp only [List.take_succ_cons, List.take_zero, List.drop_succ_cons, List.drop_zero]
                  refine SeqT.run (v := ?_) rfl rfl (fun _ wz hz => ?_) ?_ ?_; rotate_left; (have hz6 := hz.1.cell hr6 (fun e => hrlg e.symm); have q0 := hz.1.cell e0 (fun e => hebl e.symm); have q1 := hz.1.cell e1 (fun e => hebl e.symm); have q2 := hz.1.cell e2 (fun e => hebl e.symm); have q3 := hz.1.cell e3 (fun e => hebl e.symm); have q4 := hz.1.cell e4 (fun e => hebl e.symm); go_simp; first | exact UponS.value (Since.refl _) | exact UponS.skip (Since.refl _)); (exact rfl); (try simp only [Act.put, List.setIfInBounds_toArray, List.set_cons_zero, List.set_cons_succ])
                  refine SeqT.run (v := ?_) rfl rfl (fun _ wz hz => ?_) ?_ ?_; rotate_left; (have hz6 := hz.1.cell hr6 (fun e => hrlg e.symm); have q0 := hz.1.cell e0 (fun e => hebl e.symm); have q1 := hz.1.cell e1 (fun e => hebl e.symm); have q2 := hz.1.cell e2 (fun e => hebl e.symm); have q3 := hz.1.cell e3 (fun e => hebl e.symm); have q4 := hz.1.cell e4 (fun e => hebl e.symm); go_simp; first | exact UponS.value (Since.refl _) | exact UponS.skip (Since.refl _)); (exact rfl); (try simp only [Act.put, List.setIfInBounds_toArray, List.set_cons_zero, List.set_cons_succ])
                  refine SeqT.run (v := ?_) rfl rfl (fun _ wz hz => ?_) ?_ ?_; rotate_left; (have hz6 := hz.1.cell hr6 (fun e => hrlg e.symm); have q0 := hz.1.cell e0 (fun e => hebl e.symm); have q1 := hz.1.cell e1 (fun e => hebl e.symm); have q2 := hz.1.cell e2 (fun e => hebl e.symm); have q3 := hz.1.cell e3 (fun e => hebl e.symm); have q4 := hz.1.cell e4 (fun e => hebl e.symm); go_simp; first | exact UponS.value (Since.refl _) | exact UponS.skip (Since.refl _)); (exact rfl); (try simp only [Act.put, List.setIfInBounds_toArray, List.set_cons_zero, List.set_cons_succ])
                  refine SeqT.run (v := ?_) rfl rfl (fun _ wz hz => ?_) ?_ ?_; rotate_left; (have hz6 := hz.1.cell hr6 (fun e => hrlg e.symm); have q0 := hz.1.cell e0 (fun e => hebl e.symm); have q1 := hz.1.cell e1 (fun e => hebl e.symm); have q2 := hz.1.cell e2 (fun e => hebl e.symm); have q3 := hz.1.cell e3 (fun e => hebl e.symm); have q4 := hz.1.cell e4 (fun e => hebl e.symm); go_simp; first | exact UponS.value (Since.refl _) | exact UponS.skip (Since.refl _)); (exact rfl); (try simp only [Act.put, List.setIfInBounds_toArray, List.set_cons_zero, List.set_cons_succ])
                  refine SeqT.run (v := ?_) rfl rfl (fun _ wz hz => ?_) ?_ ?_; rotate_left; (have hz6 := hz.1.cell hr6 (fun e => hrlg e.symm); have q0 := hz.1.cell e0 (fun e => hebl e.symm); have q1 := hz.1.cell e1 (fun e => hebl e.symm); have q2 := hz.1.cell e2 (fun e => hebl e.symm); have q3 := hz.1.cell e3 (fun e => hebl e.symm); have q4 := hz.1.cell e4 (fun e => hebl e.symm); go_simp; first | exact UponS.value (Since.refl _) | exact UponS.skip (Since.refl _)); (exact rfl); (try simp only [Act.put, List.setIfInBounds_toArray, List.set_cons_zero, List.set_cons_succ])
                  refine SeqT.run (v := ?_) rfl rfl (fun _ wz hz => ?_) ?_ ?_; rotate_left; (have hz6 := hz.1.cell hr6 (fun e => hrlg e.symm); have q0 := hz.1.cell e0 (fun e => hebl e.symm); have q1 := hz.1.cell e1 (fun e => hebl e.symm); have q2 := hz.1.cell e2 (fun e => hebl e.symm); have q3 := hz.1.cell e3 (fun e => hebl e.symm); have q4 := hz.1.cell e4 (fun e => hebl e.symm); go_simp; first | exact UponS.value (Since.refl _) | exact UponS.skip (Since.refl _)); (exact rfl); (try simp only [Act.put, List.setIfInBounds_toArray, List.set_cons_zero, List.set_cons_succ])
                  refine SeqT.tie rfl (by decide) rfl (fun wz hz hd => ?_) (fun v6 _ _ => ?_)
                  · have HJ : Hid (LogJ 178 lg evs.length xs [.int .i64 u, .int .i64 n, .int .i64 page, .slice vda sn vdc, .slice voa sn voc] wr.heap.size 6 (.slice (some ⟨wz.heap.size, 0, none⟩) 1 1) wz.heap.size (wz.heap.size + 1) (wz.alloc (.cells #[.int .i64 u, .int .i64 n, .int .i64 page, .slice vda sn vdc, .slice voa sn voc] 178))) := Lib.hid ⟨_, rfl, Blk.new wz 178 [_, _, _, _, _]⟩
                    clear hd hz
                    go_simp
                    exact UponT.value ⟨HJ.out, (Below.refl _ _).alloc (Nat.le_refl _) _⟩
                  (try simp only [Act.put, List.setIfInBounds_toArray, List.set_cons_zero, List.set_cons_succ])
                  refine SeqT.write rfl rfl rfl (fun wz hz hd => ?_) (fun v7 _ _ => ?_)
                  · obtain ⟨g8, rfl, hk8⟩ := hd.all 6 (by decide) v6 _ _ rfl
                    obtain ⟨v', w', hr, ho, hg, hat⟩ := run_append_lit (P := Try.prog) 0 94 94 178 i0 (.agg #[.int .i64 0, .int .i64 0, .int .i64 0, .slice none 0 0, .slice none 0 0]) 5 72 Try.underlying94 hif hz0 hz1' hz2' rfl (by decide) lg evs.length xs (own_below HW.out ((Below.refl _ _).drew.trans (hz.2 rfl).below)) g8 _ hk8 rfl (oneCell_ev _ _ _ _ _ _ _ _ _) (by unfold maxLen; omega) (by omega) (Nat.zero_le _)
                    refine UponT.append _ _ _ _ _ _ rfl rfl rfl hr ⟨⟨ho, ?_⟩, grownBy_trans hz.1 hg, fun e => by (cases e)⟩
                    rcases hat with hat | hat
                    · exact .inl hat
                    · exact .inr ⟨_, hat, hz.1.size⟩
                  (try simp only [Act.put, List.setIfInBounds_toArray, List.set_cons_zero, List.set_cons_succ])
                  refine SeqT.run (v := ?_) rfl rfl (fun _ wz hz => ?_) ?_ ?_; rotate_left; (have hz6 := hz.1.cell hr6 (fun e => hrlg e.symm); have q0 := hz.1.cell e0 (fun e => hebl e.symm); have q1 := hz.1.cell e1 (fun e => hebl e.symm); have q2 := hz.1.cell e2 (fun e => hebl e.symm); have q3 := hz.1.cell e3 (fun e => hebl e.symm); have q4 := hz.1.cell e4 (fun e => hebl e.symm); go_simp; first | exact UponS.value (Since.refl _) | exact UponS.skip (Since.refl _)); (exact rfl); (try simp only [Act.put, List.setIfInBounds_toArray, List.set_cons_zero, List.set_cons_succ])
                  refine SeqT.run (v := ?_) rfl rfl (fun _ wz hz => ?_) ?_ ?_; rotate_left; (have hz6 := hz.1.cell hr6 (fun e => hrlg e.symm); have q0 := hz.1.cell e0 (fun e => hebl e.symm); have q1 := hz.1.cell e1 (fun e => hebl e.symm); have q2 := hz.1.cell e2 (fun e => hebl e.symm); have q3 := hz.1.cell e3 (fun e => hebl e.symm); have q4 := hz.1.cell e4 (fun e => hebl e.symm); go_simp; first | exact UponS.value (Since.refl _) | exact UponS.skip (Since.refl _)); (exact rfl); (try simp only [Act.put, List.setIfInBounds_toArray, List.set_cons_zero, List.set_cons_succ])
                  intro wb hz hi
                  obtain ⟨ho, hat⟩ := hi.all 7 v7 _ _ rfl
                  obtain ⟨g9, c9, rfl⟩ := own_form ho (by omega)
                  have hKD := HKD.out
                  have hsl : ∀ {v : Value} {xss : List (List Int)}, RowsAt 5 45 wr w4.heap.size v xss → xss.length ≤ 100 → (∀ x ∈ xss, x.length ≤ 100) → Sls wb (RRows (fun k => (F k ∨ w4.heap.size ≤ k ∧ k < wr.heap.size) ∨ wr.heap.size ≤ k ∧ k < wb.heap.size) r pb nx wrr rt (.slice (some ⟨g9, 0, none⟩) (evs.length + 1) c9)) v xss := fun {v xss} h hl hx => by
                    refine ((h.sls hl hx).keep hz.1.size fun k hk hq => hz.1.block k hk fun e => ?_).mono fun k _ hq => ?_
                    · have := H4.out.inF _ (H4.out.mem.2.2.2.2.2 _ e.symm)
                      have := hq.1
                      omega
                    · obtain ⟨m1, m2, m3, m4, m5, m6⟩ := H4.out.mem
                      have n1 := H4.out.inF _ m1
                      have n2 := H4.out.inF _ m2
                      have n3 := H4.out.inF _ m3
                      have n4 := H4.out.inF _ m4
                      have n5 := H4.out.inF _ m5
                      have := hq.1
                      refine ⟨.inl (.inr hq), by omega, by omega, by omega, by omega, by omega, fun e => ?_⟩
                      rcases hat with hat | ⟨b', hat, hb'⟩
                      · rw [hat] at e
                        have := H4.out.inF _ (m6 _ e)
                        omega
                      · rw [hat] at e
                        have := Option.some.inj e
                        have := hq.2
                        omega
                  have H6 := Lib.hid (RNRaw.refew (m' := m + 1) (H5.out.append (w1 := wb) (w' := wb.setCell ⟨r, 6, none⟩ (.slice (some ⟨g9, 0, none⟩) (evs.length + 1) c9)) (e := ⟨u, n, page, data.take sn, oob.take sn⟩) (sc := setPage ⟨c, l, b, p, sn⟩ S.sec u n page (sn : Nat) data oob) HV.out HW.out.1 rfl hz.1 hat ho (hsl HEr.out.d (by rw [hKD.1]; have := HKS.out; omega) (fun x hx => by rw [HLX.out.1 x (List.mem_of_mem_take hx)]; omega)) (hsl HEr.out.o (by rw [hKD.2]; have := HKS.out; omega) (fun x hx => by rw [HLX.out.2 x (List.mem_of_mem_take hx)]; omega)) (by rw [hKD.1, hKD.2]) (evSec_prog HRW.out.ok HRW.out.sec HI.out HFX.out HNX.out (by omega) sn (by rw [HLEN.out.1]; exact HKS.out) (by rw [HLEN.out.1, HLEN.out.2]))) (by have h1 := HRW.out.few; rw [List.length_append, List.length_singleton]; omega))
                  have HO6 : Hid (OnlyF F w (wb.setCell ⟨r, 6, none⟩ (.slice (some ⟨g9, 0, none⟩) (evs.length + 1) c9))) := OnlyF.setCell (OnlyF.grownO (HO4.out.step HBr.out) H4.out.mem.2.2.2.2.2 hz.1) (p := ⟨r, 6, none⟩) H4.out.mem.1 _
                  have HF6 : Hid (Fresh F (fun k => (F k ∨ w4.heap.size ≤ k ∧ k < wr.heap.size) ∨ wr.heap.size ≤ k ∧ k < (wb.setCell ⟨r, 6, none⟩ (.slice (some ⟨g9, 0, none⟩) (evs.length + 1) c9)).heap.size) w.heap.size) := fun k hk => by
                    have := HBr.out.size
                    rcases hk with (hk | hk) | hk
                    · exact .inl hk
                    · exact .inr (by omega)
                    · exact .inr (by omega)
                  have hblkb : Blk wb r 97 _ := H5.out.blk.grown hz.1 hrlg
                  have hb6 := hblkb.cell 6
                  have hf6 := hblkb.free 6
                  have hlb6 := hblkb.lt
                  have hb10 : wb.cell? ⟨r, 10, none⟩ = some (.bool S.off) := hblkb.cell 10
                  have hf10 := hblkb.free 10
                  clear hz hi ho hat hsl hblkb e0 e1 e2 e3 e4 hr6
                  have HFIN : Hid (RNPost w F r ⟨c, l, b, p, sn⟩ (.int .i64 R.1) R.2 (m + 1) (.returned (.int .i64 0)) (wb.setCell ⟨r, 6, none⟩ (.slice (some ⟨g9, 0, none⟩) (evs.length + 1) c9))) := by
                    show RNPost _ _ _ _ _ _ _ _ _
                    rw [HR.out]
                    exact ⟨rfl, _, ⟨L, n0 + 1, _, pb, nx, wrr, rt, lv, _, H6.out⟩, HO6.out, HF6.out⟩
                  go_wp2_with fail
                  go_ret
                  exact HFIN.out
            · obtain ⟨K, rfl⟩ : ∃ K : Nat, kp = K := ⟨kp.toNat, by omega⟩
              have HKS : Hid (K ≤ sn) := show K ≤ sn by omega
              have HR3 := HR.out
              rw [if_neg (by decide)] at HR3
              clear HR
              have HR := Lib.hid HR3
              clear HR3
              go_wp2_with fail
              go_loopw [17] (fun t wr => ∃ (j : Nat) (vd vo : Value), j ≤ K ∧ t = .int .i64 j ∧ Hid (EvLoc wr w4.heap.size w4.heap.size u n page vd vo (data.take j) (oob.take j)) ∧ Hid (Below w4.heap.size w4 wr)) (fun t _ => ((K : Int) - intOf t).toNat)
              case atStart => exact ⟨0, _, _, Nat.zero_le _, rfl, HE0.out, HB0.out⟩
              case round =>
                obtain ⟨j, vd, vo, hj, rfl, HEr, HBr⟩ := hrel
                by_cases hlt : j < K
                · have hjs : j < sn := by have := HKS.out; omega
                  obtain ⟨x, hx⟩ : ∃ x, data[j]? = some x := ⟨_, List.getElem?_eq_getElem (by rw [HLEN.out.1]; omega)⟩
                  obtain ⟨y, hy⟩ : ∃ y, oob[j]? = some y := ⟨_, List.getElem?_eq_getElem (by rw [HLEN.out.2]; omega)⟩
                  have HX := Lib.hid hx
                  have HY := Lib.hid hy
                  have HXL := Lib.hid (HLX.out.1 x (List.mem_of_getElem? hx))
                  have HYL := Lib.hid (HLX.out.2 y (List.mem_of_getElem? hy))
                  have hj0 : (0 : Int) ≤ j := by omega
                  have hdl := HLEN.out.1
                  have hol := HLEN.out.2
                  clear hx hy
                  go_wp2_with fail
                  obtain ⟨gb, go, gua, guc, hge, hgq, hgl, hgc, hgs⟩ := (HD.out.away (HO4.out.step HBr.out)).getQ HX.out
                  subst hge
                  have hgs := Lib.hid hgs.sl
                  obtain ⟨row, hrow, hrow2⟩ := HEr.out.d
                  have hrl' : row.length = (List.take j data).length := by have := hrow.1; omega
                  rw [← hrl'] at hrow
                  have HRO := Lib.hid hrow
                  have HRO2 := Lib.hid hrow2
                  have hrl'' : row.length ≤ 4 := by rw [hrl', List.length_take]; omega
                  have hne : (vd).ownBlock ≠ some w4.heap.size := own_ne_blk hrow HEr.out.blk (by decide)
                  have hnd : (vd).ownBlock ≠ some gb := fun e => by have h1 := (hrow.lt gb e).1; have h2 := hgq.2; omega
                  have hce : wr.cell? ⟨w4.heap.size, 3, none⟩ = some vd := HEr.out.blk.cell 3
                  have hcd : wr.cell? ⟨gb, go + j, none⟩ = some (.slice gua (x).length guc) := hgc
                  have hsW := HBr.out.size
                  have hjd : (j : Int) < (data).length := by omega
                  have HRL := Lib.hid hrl'
                  clear hrow hrow2 hgc hgq hrl'
                  obtain ⟨i0, hif, hz0, hz1', hz2'⟩ := info_parts info_u8
                  obtain ⟨i1, hif1, hy0, hy1, hy2⟩ := info_parts info_u8s
                  refine wp_region_g 11 [(2, []), (7, [2]), (8, [7]), (9, [8])] 9 (fun q wz => wr.grownBy wz (vd).ownBlock ∧ (q = false → Since (wr).drew wz)) (CopyJ 5 45 w4.heap.size vd row x (wr).heap.size) [?_, ?_, undef, ?_, ?_, ?_, ?_, undef, undef, undef, ?_] (by kernel_rfl) (by kernel_rfl) (by kernel_rfl) ⟨grown_of_below (Below.refl _ _).drew _, fun _ => Since.refl _⟩ (fun b x y h1 h2 => ⟨grownBy_trans h1.1 (grown_of_below h2 _), fun e => (h1.2 e).trans h2⟩) CopyJ.keep ?_
                  rotate_left 7
                  simp only [List.take_succ_cons, List.take_zero, List.drop_succ_cons, List.drop_zero]
                  refine SeqT.run (v := ?_) rfl rfl (fun _ wz hz => ?_) ?_ ?_; rotate_left; (have hz1 := hz.1.cell hce (fun e => hne e.symm); have hz2 := hz.1.cell hcd (fun e => hnd e.symm); go_simp; first | exact UponS.value (Since.refl _) | exact UponS.skip (Since.refl _)); (exact rfl); (try simp only [Act.put, List.setIfInBounds_toArray, List.set_cons_zero, List.set_cons_succ])
                  refine SeqT.run (v := ?_) rfl rfl (fun _ wz hz => ?_) ?_ ?_; rotate_left; (have hz1 := hz.1.cell hce (fun e => hne e.symm); have hz2 := hz.1.cell hcd (fun e => hnd e.symm); go_simp; first | exact UponS.value (Since.refl _) | exact UponS.skip (Since.refl _)); (exact rfl); (try simp only [Act.put, List.setIfInBounds_toArray, List.set_cons_zero, List.set_cons_succ])
                  refine SeqT.tie rfl (by decide) rfl (fun wz hz hd => ?_) (fun v2 _ _ => ?_)
                  · have hzs := hz.1.size
                    clear hd hz
                    go_simp
                    exact UponT.value ⟨⟨wz.heap.size, rfl, by omega, Blk.new wz 5 []⟩, (Below.refl _ _).alloc (Nat.le_refl _) _⟩
                  (try simp only [Act.put, List.setIfInBounds_toArray, List.set_cons_zero, List.set_cons_succ])
                  refine SeqT.run (v := ?_) rfl rfl (fun _ wz hz => ?_) ?_ ?_; rotate_left; (have hz1 := hz.1.cell hce (fun e => hne e.symm); have hz2 := hz.1.cell hcd (fun e => hnd e.symm); go_simp; first | exact UponS.value (Since.refl _) | exact UponS.skip (Since.refl _)); (exact rfl); (try simp only [Act.put, List.setIfInBounds_toArray, List.set_cons_zero, List.set_cons_succ])
                  refine SeqT.run (v := ?_) rfl rfl (fun _ wz hz => ?_) ?_ ?_; rotate_left; (have hz1 := hz.1.cell hce (fun e => hne e.symm); have hz2 := hz.1.cell hcd (fun e => hnd e.symm); go_simp; first | exact UponS.value (Since.refl _) | exact UponS.skip (Since.refl _)); (exact rfl); (try simp only [Act.put, List.setIfInBounds_toArray, List.set_cons_zero, List.set_cons_succ])
                  refine SeqT.run (v := ?_) rfl rfl (fun _ wz hz => ?_) ?_ ?_; rotate_left; (have hz1 := hz.1.cell hce (fun e => hne e.symm); have hz2 := hz.1.cell hcd (fun e => hnd e.symm); go_simp; first | exact UponS.value (Since.refl _) | exact UponS.skip (Since.refl _)); (exact rfl); (try simp only [Act.put, List.setIfInBounds_toArray, List.set_cons_zero, List.set_cons_succ])
                  refine SeqT.run (v := ?_) rfl rfl (fun _ wz hz => ?_) ?_ ?_; rotate_left; (have hz1 := hz.1.cell hce (fun e => hne e.symm); have hz2 := hz.1.cell hcd (fun e => hnd e.symm); go_simp; first | exact UponS.value (Since.refl _) | exact UponS.skip (Since.refl _)); (exact rfl); (try simp only [Act.put, List.setIfInBounds_toArray, List.set_cons_zero, List.set_cons_succ])
                  refine SeqT.tie rfl (by decide) rfl (fun wz hz hd => ?_) (fun v7 _ _ => ?_)
                  · obtain ⟨g0, rfl, hg0, hk0'⟩ := hd.all 2 (by decide) v2 _ _ rfl
                    obtain ⟨v', w', hr, ho, hs⟩ := run_append_fresh (P := Try.prog) w4.heap.size 45 45 5 _ (.int .u8 0) 1 Try.underlying45 hif hz0 hz1' hz2' rfl g0 hg0 (by have := hz.1.size; omega) hk0' 0 (.slice gua (x).length guc) (bv x) (hgs.out.below ((Below.refl _ _).drew.trans (hz.2 rfl).below)) (by rw [bv_length, HXL.out]; unfold maxLen; omega) (by rw [bv_length, HXL.out]; omega)
                    rw [bv_length] at ho
                    exact UponT.append _ _ _ _ _ _ rfl rfl rfl hr ⟨ho, hs⟩
                  (try simp only [Act.put, List.setIfInBounds_toArray, List.set_cons_zero, List.set_cons_succ])
                  refine SeqT.tie rfl (by decide) rfl (fun wz hz hd => ?_) (fun v8 _ _ => ?_)
                  · have h7 : wz.ownsRow w4.heap.size 5 1 v7 (x).length (bv x) := hd.all 7 (by decide) v7 _ _ rfl
                    obtain ⟨q1, q2, rfl⟩ := own_slice h7
                    have HJ : Hid (CopyJ 5 45 w4.heap.size vd row x (wr).heap.size 8 (.slice (some ⟨wz.heap.size, 0, none⟩) 1 1) wz.heap.size (wz.heap.size + 1) (wz.alloc (.cells #[.slice q1 (x).length q2] 45))) := Lib.hid ⟨_, _, rfl, Blk.new wz 45 [_], h7.alloc _⟩
                    clear hd h7 hz
                    go_simp
                    exact UponT.value ⟨HJ.out, (Below.refl _ _).alloc (Nat.le_refl _) _⟩
                  (try simp only [Act.put, List.setIfInBounds_toArray, List.set_cons_zero, List.set_cons_succ])
                  refine SeqT.write rfl rfl rfl (fun wz hz hd => ?_) (fun v9 _ _ => ?_)
                  · obtain ⟨g8, vx, rfl, hk8, hx8⟩ := hd.all 8 (by decide) v8 _ _ rfl
                    obtain ⟨q1, q2, rfl⟩ := own_slice hx8
                    have hown := own_below HRO.out ((Below.refl _ _).drew.trans (hz.2 rfl).below)
                    obtain ⟨v', w', hr, ho, hg, hat⟩ := run_append_lit (P := Try.prog) w4.heap.size 41 41 45 i1 (.slice none 0 0) 1 24 Try.underlying41 hif1 hy0 hy1 hy2 rfl (by decide) vd row.length row hown g8 _ hk8 rfl (oneCell_slice _ _ _) (by unfold maxLen; omega) (by omega) (by have := hz.1.size; omega)
                    refine UponT.append _ _ _ _ _ _ rfl rfl rfl hr ⟨⟨_, ho, hx8.kept hg (own_ne_own hx8 hown (by decide)), ?_⟩, grownBy_trans hz.1 hg, fun e => by (cases e)⟩
                    rcases hat with hat | hat
                    · exact .inl hat
                    · exact .inr ⟨_, hat, hz.1.size⟩
                  (try simp only [Act.put, List.setIfInBounds_toArray, List.set_cons_zero, List.set_cons_succ])
                  refine SeqT.run (v := ?_) rfl rfl (fun _ wz hz => ?_) ?_ ?_; rotate_left; (have hz1 := hz.1.cell hce (fun e => hne e.symm); have hz2 := hz.1.cell hcd (fun e => hnd e.symm); go_simp; first | exact UponS.value (Since.refl _) | exact UponS.skip (Since.refl _)); (exact rfl); (try simp only [Act.put, List.setIfInBounds_toArray, List.set_cons_zero, List.set_cons_succ])
                  intro wb hz hi
                  obtain ⟨vx, ho, hx, hat⟩ := hi.all 9 v9 _ _ rfl
                  obtain ⟨g9, c9, rfl⟩ := own_form ho (by omega)
                  have hEv := HEr.out.stepD (by rw [← HRL.out]; exact HRO.out) HRO2.out hz.1 ho hx hat
                  have hbb : Blk wb w4.heap.size 178 _ := HEr.out.blk.grown hz.1 hne
                  have hcb := hbb.cell 3
                  have hfb := hbb.free 3
                  have hlb := hbb.lt
                  have hBn : Below w4.heap.size w4 (wb.setCell ⟨w4.heap.size, 3, none⟩ (.slice (some ⟨g9, 0, none⟩) (row.length + 1) c9)) := ((HBr.out).grown hz.1 hsW (fun k e => (HRO.out.lt k e).1)).setCell (p := ⟨w4.heap.size, 3, none⟩) (Nat.le_refl _) _
                  have HEc := Lib.hid hEv
                  have HBc := Lib.hid hBn
                  clear hEv hBn hbb hz hi ho hx hat HRO HRO2 hgs hce hcd hne hnd hgl hrl'' hsW hjd hif hz0 hz1' hz2' hif1 hy0 hy1 hy2 HRL
                  go_wp2_with fail
                  clear hcb hfb hlb
                  generalize wb.setCell ⟨w4.heap.size, 3, none⟩ (.slice (some ⟨g9, 0, none⟩) (row.length + 1) c9) = wc at HEc HBc ⊢
                  generalize Value.slice (some ⟨g9, 0, none⟩) (row.length + 1) c9 = vd at HEc
                  obtain ⟨gb, go, gua, guc, hge, hgq, hgl, hgc, hgs⟩ := (HOO.out.away (HO4.out.step HBc.out)).getQ HY.out
                  subst hge
                  have hgs := Lib.hid hgs.sl
                  obtain ⟨row, hrow, hrow2⟩ := HEc.out.o
                  have hrl' : row.length = (List.take j oob).length := by have := hrow.1; omega
                  rw [← hrl'] at hrow
                  have HRO := Lib.hid hrow
                  have HRO2 := Lib.hid hrow2
                  have hrl'' : row.length ≤ 4 := by rw [hrl', List.length_take]; omega
                  have hne : (vo).ownBlock ≠ some w4.heap.size := own_ne_blk hrow HEc.out.blk (by decide)
                  have hnd : (vo).ownBlock ≠ some gb := fun e => by have h1 := (hrow.lt gb e).1; have h2 := hgq.2; omega
                  have hce : wc.cell? ⟨w4.heap.size, 4, none⟩ = some vo := HEc.out.blk.cell 4
                  have hcd : wc.cell? ⟨gb, go + j, none⟩ = some (.slice gua (y).length guc) := hgc
                  have hsW := HBc.out.size
                  have hjd : (j : Int) < (oob).length := by omega
                  have HRL := Lib.hid hrl'
                  clear hrow hrow2 hgc hgq hrl'
                  obtain ⟨i0, hif, hz0, hz1', hz2'⟩ := info_parts info_u8
                  obtain ⟨i1, hif1, hy0, hy1, hy2⟩ := info_parts info_u8s
                  refine wp_region_g 11 [(2, []), (7, [2]), (8, [7]), (9, [8])] 9 (fun q wz => wc.grownBy wz (vo).ownBlock ∧ (q = false → Since (wc).drew wz)) (CopyJ 5 45 w4.heap.size vo row y (wc).heap.size) [?_, ?_, undef, ?_, ?_, ?_, ?_, undef, undef, undef, ?_] (by kernel_rfl) (by kernel_rfl) (by kernel_rfl) ⟨grown_of_below (Below.refl _ _).drew _, fun _ => Since.refl _⟩ (fun b x y h1 h2 => ⟨grownBy_trans h1.1 (grown_of_below h2 _), fun e => (h1.2 e).trans h2⟩) CopyJ.keep ?_
                  rotate_left 7
                  simp only [List.take_succ_cons, List.take_zero, List.drop_succ_cons, List.drop_zero]
                  refine SeqT.run (v := ?_) rfl rfl (fun _ wz hz => ?_) ?_ ?_; rotate_left; (have hz1 := hz.1.cell hce (fun e => hne e.symm); have hz2 := hz.1.cell hcd (fun e => hnd e.symm); go_simp; first | exact UponS.value (Since.refl _) | exact UponS.skip (Since.refl _)); (exact rfl); (try simp only [Act.put, List.setIfInBounds_toArray, List.set_cons_zero, List.set_cons_succ])
                  refine SeqT.run (v := ?_) rfl rfl (fun _ wz hz => ?_) ?_ ?_; rotate_left; (have hz1 := hz.1.cell hce (fun e => hne e.symm); have hz2 := hz.1.cell hcd (fun e => hnd e.symm); go_simp; first | exact UponS.value (Since.refl _) | exact UponS.skip (Since.refl _)); (exact rfl); (try simp only [Act.put, List.setIfInBounds_toArray, List.set_cons_zero, List.set_cons_succ])
                  refine SeqT.tie rfl (by decide) rfl (fun wz hz hd => ?_) (fun v2 _ _ => ?_)
                  · have hzs := hz.1.size
                    clear hd hz
                    go_simp
                    exact UponT.value ⟨⟨wz.heap.size, rfl, by omega, Blk.new wz 5 []⟩, (Below.refl _ _).alloc (Nat.le_refl _) _⟩
                  (try simp only [Act.put, List.setIfInBounds_toArray, List.set_cons_zero, List.set_cons_succ])
                  refine SeqT.run (v := ?_) rfl rfl (fun _ wz hz => ?_) ?_ ?_; rotate_left; (have hz1 := hz.1.cell hce (fun e => hne e.symm); have hz2 := hz.1.cell hcd (fun e => hnd e.symm); go_simp; first | exact UponS.value (Since.refl _) | exact UponS.skip (Since.refl _)); (exact rfl); (try simp only [Act.put, List.setIfInBounds_toArray, List.set_cons_zero, List.set_cons_succ])
                  refine SeqT.run (v := ?_) rfl rfl (fun _ wz hz => ?_) ?_ ?_; rotate_left; (have hz1 := hz.1.cell hce (fun e => hne e.symm); have hz2 := hz.1.cell hcd (fun e => hnd e.symm); go_simp; first | exact UponS.value (Since.refl _) | exact UponS.skip (Since.refl _)); (exact rfl); (try simp only [Act.put, List.setIfInBounds_toArray, List.set_cons_zero, List.set_cons_succ])
                  refine SeqT.run (v := ?_) rfl rfl (fun _ wz hz => ?_) ?_ ?_; rotate_left; (have hz1 := hz.1.cell hce (fun e => hne e.symm); have hz2 := hz.1.cell hcd (fun e => hnd e.symm); go_simp; first | exact UponS.value (Since.refl _) | exact UponS.skip (Since.refl _)); (exact rfl); (try simp only [Act.put, List.setIfInBounds_toArray, List.set_cons_zero, List.set_cons_succ])
                  refine SeqT.run (v := ?_) rfl rfl (fun _ wz hz => ?_) ?_ ?_; rotate_left; (have hz1 := hz.1.cell hce (fun e => hne e.symm); have hz2 := hz.1.cell hcd (fun e => hnd e.symm); go_simp; first | exact UponS.value (Since.refl _) | exact UponS.skip (Since.refl _)); (exact rfl); (try simp only [Act.put, List.setIfInBounds_toArray, List.set_cons_zero, List.set_cons_succ])
                  refine SeqT.tie rfl (by decide) rfl (fun wz hz hd => ?_) (fun v7 _ _ => ?_)
                  · obtain ⟨g0, rfl, hg0, hk0'⟩ := hd.all 2 (by decide) v2 _ _ rfl
                    obtain ⟨v', w', hr, ho, hs⟩ := run_append_fresh (P := Try.prog) w4.heap.size 45 45 5 _ (.int .u8 0) 1 Try.underlying45 hif hz0 hz1' hz2' rfl g0 hg0 (by have := hz.1.size; omega) hk0' 0 (.slice gua (y).length guc) (bv y) (hgs.out.below ((Below.refl _ _).drew.trans (hz.2 rfl).below)) (by rw [bv_length, HYL.out]; unfold maxLen; omega) (by rw [bv_length, HYL.out]; omega)
                    rw [bv_length] at ho
                    exact UponT.append _ _ _ _ _ _ rfl rfl rfl hr ⟨ho, hs⟩
                  (try simp only [Act.put, List.setIfInBounds_toArray, List.set_cons_zero, List.set_cons_succ])
                  refine SeqT.tie rfl (by decide) rfl (fun wz hz hd => ?_) (fun v8 _ _ => ?_)
                  · have h7 : wz.ownsRow w4.heap.size 5 1 v7 (y).length (bv y) := hd.all 7 (by decide) v7 _ _ rfl
                    obtain ⟨q1, q2, rfl⟩ := own_slice h7
                    have HJ : Hid (CopyJ 5 45 w4.heap.size vo row y (wc).heap.size 8 (.slice (some ⟨wz.heap.size, 0, none⟩) 1 1) wz.heap.size (wz.heap.size + 1) (wz.alloc (.cells #[.slice q1 (y).length q2] 45))) := Lib.hid ⟨_, _, rfl, Blk.new wz 45 [_], h7.alloc _⟩
                    clear hd h7 hz
                    go_simp
                    exact UponT.value ⟨HJ.out, (Below.refl _ _).alloc (Nat.le_refl _) _⟩
                  (try simp only [Act.put, List.setIfInBounds_toArray, List.set_cons_zero, List.set_cons_succ])
                  refine SeqT.write rfl rfl rfl (fun wz hz hd => ?_) (fun v9 _ _ => ?_)
                  · obtain ⟨g8, vx, rfl, hk8, hx8⟩ := hd.all 8 (by decide) v8 _ _ rfl
                    obtain ⟨q1, q2, rfl⟩ := own_slice hx8
                    have hown := own_below HRO.out ((Below.refl _ _).drew.trans (hz.2 rfl).below)
                    obtain ⟨v', w', hr, ho, hg, hat⟩ := run_append_lit (P := Try.prog) w4.heap.size 41 41 45 i1 (.slice none 0 0) 1 24 Try.underlying41 hif1 hy0 hy1 hy2 rfl (by decide) vo row.length row hown g8 _ hk8 rfl (oneCell_slice _ _ _) (by unfold maxLen; omega) (by omega) (by have := hz.1.size; omega)
                    refine UponT.append _ _ _ _ _ _ rfl rfl rfl hr ⟨⟨_, ho, hx8.kept hg (own_ne_own hx8 hown (by decide)), ?_⟩, grownBy_trans hz.1 hg, fun e => by (cases e)⟩
                    rcases hat with hat | hat
                    · exact .inl hat
                    · exact .inr ⟨_, hat, hz.1.size⟩
                  (try simp only [Act.put, List.setIfInBounds_toArray, List.set_cons_zero, List.set_cons_succ])
                  refine SeqT.run (v := ?_) rfl rfl (fun _ wz hz => ?_) ?_ ?_; rotate_left; (have hz1 := hz.1.cell hce (fun e => hne e.symm); have hz2 := hz.1.cell hcd (fun e => hnd e.symm); go_simp; first | exact UponS.value (Since.refl _) | exact UponS.skip (Since.refl _)); (exact rfl); (try simp only [Act.put, List.setIfInBounds_toArray, List.set_cons_zero, List.set_cons_succ])
                  intro wb hz hi
                  obtain ⟨vx, ho, hx, hat⟩ := hi.all 9 v9 _ _ rfl
                  obtain ⟨g9, c9, rfl⟩ := own_form ho (by omega)
                  have hEv := HEc.out.stepO (by rw [← HRL.out]; exact HRO.out) HRO2.out hz.1 ho hx hat
                  have hbb : Blk wb w4.heap.size 178 _ := HEc.out.blk.grown hz.1 hne
                  have hcb := hbb.cell 4
                  have hfb := hbb.free 4
                  have hlb := hbb.lt
                  have hBn : Below w4.heap.size w4 (wb.setCell ⟨w4.heap.size, 4, none⟩ (.slice (some ⟨g9, 0, none⟩) (row.length + 1) c9)) := ((HBc.out).grown hz.1 hsW (fun k e => (HRO.out.lt k e).1)).setCell (p := ⟨w4.heap.size, 4, none⟩) (Nat.le_refl _) _
                  have HEd := Lib.hid hEv
                  have HBd := Lib.hid hBn
                  clear hEv hBn hbb hz hi ho hx hat HRO HRO2 hgs hce hcd hne hnd hgl hrl'' hsW hjd hif hz0 hz1' hz2' hif1 hy0 hy1 hy2 HRL
                  go_wp2_with fail
                  clear hcb hfb hlb
                  generalize wb.setCell ⟨w4.heap.size, 4, none⟩ (.slice (some ⟨g9, 0, none⟩) (row.length + 1) c9) = wd at HEd HBd ⊢
                  generalize Value.slice (some ⟨g9, 0, none⟩) (row.length + 1) c9 = vo at HEd
                  have hEE := HEd.out
                  rw [show List.take j data ++ [x] = List.take (j + 1) data by rw [List.take_add_one, HX.out]; rfl, show List.take j oob ++ [y] = List.take (j + 1) oob by rw [List.take_add_one, HY.out]; rfl] at hEE
                  have HEE := Lib.hid hEE
                  clear hEE HEd
                  go_wp2_with fail
                  go_roundw
                  case rel => exact ⟨j + 1, _, _, by omega, by go_num, HEE.out, HBd.out⟩
                  case measure => simp [intOf]; omega
                · obtain rfl : K = j := by omega
                  have h5 := (H4.out.below HBr.out).wide (F2 := fun k => F k ∨ w4.heap.size ≤ k ∧ k < wr.heap.size) (fun k hk => .inl hk) (fun k hk => hk.elim (fun hk => Nat.lt_of_lt_of_le (H4.out.inF k hk) HBr.out.size) fun hk => hk.2)
                  have H5 := Lib.hid h5
                  have hr6 : wr.cell? ⟨r, 6, none⟩ = some lg := h5.blk.cell 6
                  have hrl5 := h5.blk.lt
                  have hrlg : lg.ownBlock ≠ some r := fun e => (h5.logA r e).1 rfl
                  have hebl : lg.ownBlock ≠ some w4.heap.size := fun e => by have := H4.out.inF _ (H4.out.mem.2.2.2.2.2 _ e); omega
                  obtain ⟨xs, hown, hev⟩ := h5.log
                  have HW := Lib.hid hown
                  have HV := Lib.hid hev
                  have e0 : wr.cell? ⟨w4.heap.size, 0, none⟩ = some (.int .i64 u) := HEr.out.blk.cell 0
                  have e1 : wr.cell? ⟨w4.heap.size, 1, none⟩ = some (.int .i64 n) := HEr.out.blk.cell 1
                  have e2 : wr.cell? ⟨w4.heap.size, 2, none⟩ = some (.int .i64 page) := HEr.out.blk.cell 2
                  have e3 : wr.cell? ⟨w4.heap.size, 3, none⟩ = some vd := HEr.out.blk.cell 3
                  have e4 : wr.cell? ⟨w4.heap.size, 4, none⟩ = some vo := HEr.out.blk.cell 4
                  have hel := HEr.out.blk.lt
                  have hfw : evs.length ≤ m := HRW.out.few.2
                  obtain ⟨_, hvd, _⟩ := HEr.out.d
                  obtain ⟨_, hvo, _⟩ := HEr.out.o
                  have hKD : (data.take K).length = K ∧ (oob.take K).length = K := by have h1 := HLEN.out; have h2 := HKS.out; rw [List.length_take, List.length_take]; omega
                  obtain ⟨vda, vdc, hvde⟩ := own_slice hvd
                  obtain ⟨voa, voc, hvoe⟩ := own_slice hvo
                  rw [hKD.1] at hvde
                  rw [hKD.2] at hvoe
                  subst hvde hvoe
                  have HKD := Lib.hid hKD
                  obtain ⟨i0, hif, hz0, hz1', hz2'⟩ := info_parts info_event
                  clear h5 hown hev hvd hvo b4 hKD
                  go_wp2_with fail
                  refine wp_region_g 10 [(6, []), (7, [6])] 7 (fun q wz => wr.grownBy wz lg.ownBlock ∧ (q = false → Since wr.drew wz)) (LogJ 178 lg evs.length xs [.int .i64 u, .int .i64 n, .int .i64 page, .slice vda K vdc, .slice voa K voc] wr.heap.size) [?_, ?_, ?_, ?_, ?_, ?_, undef, undef, ?_, ?_] (by kernel_rfl) (by kernel_rfl) (by kernel_rfl) ⟨grown_of_below (Below.refl _ _).drew _, fun _ => Since.refl _⟩ (fun b x y h1 h2 => ⟨grownBy_trans h1.1 (grown_of_below h2 _), fun e => (h1.2 e).trans h2⟩) LogJ.keep ?_
                  rotate_left 8
                  simp only [List.take_succ_cons, List.take_zero, List.drop_succ_cons, List.drop_zero]
                  refine SeqT.run (v := ?_) rfl rfl (fun _ wz hz => ?_) ?_ ?_; rotate_left; (have hz6 := hz.1.cell hr6 (fun e => hrlg e.symm); have q0 := hz.1.cell e0 (fun e => hebl e.symm); have q1 := hz.1.cell e1 (fun e => hebl e.symm); have q2 := hz.1.cell e2 (fun e => hebl e.symm); have q3 := hz.1.cell e3 (fun e => hebl e.symm); have q4 := hz.1.cell e4 (fun e => hebl e.symm); go_simp; first | exact UponS.value (Since.refl _) | exact UponS.skip (Since.refl _)); (exact rfl); (try simp only [Act.put, List.setIfInBounds_toArray, List.set_cons_zero, List.set_cons_succ])
                  refine SeqT.run (v := ?_) rfl rfl (fun _ wz hz => ?_) ?_ ?_; rotate_left; (have hz6 := hz.1.cell hr6 (fun e => hrlg e.symm); have q0 := hz.1.cell e0 (fun e => hebl e.symm); have q1 := hz.1.cell e1 (fun e => hebl e.symm); have q2 := hz.1.cell e2 (fun e => hebl e.symm); have q3 := hz.1.cell e3 (fun e => hebl e.symm); have q4 := hz.1.cell e4 (fun e => hebl e.symm); go_simp; first | exact UponS.value (Since.refl _) | exact UponS.skip (Since.refl _)); (exact rfl); (try simp only [Act.put, List.setIfInBounds_toArray, List.set_cons_zero, List.set_cons_succ])
                  refine SeqT.run (v := ?_) rfl rfl (fun _ wz hz => ?_) ?_ ?_; rotate_left; (have hz6 := hz.1.cell hr6 (fun e => hrlg e.symm); have q0 := hz.1.cell e0 (fun e => hebl e.symm); have q1 := hz.1.cell e1 (fun e => hebl e.symm); have q2 := hz.1.cell e2 (fun e => hebl e.symm); have q3 := hz.1.cell e3 (fun e => hebl e.symm); have q4 := hz.1.cell e4 (fun e => hebl e.symm); go_simp; first | exact UponS.value (Since.refl _) | exact UponS.skip (Since.refl _)); (exact rfl); (try simp only [Act.put, List.setIfInBounds_toArray, List.set_cons_zero, List.set_cons_succ])
                  refine SeqT.run (v := ?_) rfl rfl (fun _ wz hz => ?_) ?_ ?_; rotate_left; (have hz6 := hz.1.cell hr6 (fun e => hrlg e.symm); have q0 := hz.1.cell e0 (fun e => hebl e.symm); have q1 := hz.1.cell e1 (fun e => hebl e.symm); have q2 := hz.1.cell e2 (fun e => hebl e.symm); have q3 := hz.1.cell e3 (fun e => hebl e.symm); have q4 := hz.1.cell e4 (fun e => hebl e.symm); go_simp; first | exact UponS.value (Since.refl _) | exact UponS.skip (Since.refl _)); (exact rfl); (try simp only [Act.put, List.setIfInBounds_toArray, List.set_cons_zero, List.set_cons_succ])
                  refine SeqT.run (v := ?_) rfl rfl (fun _ wz hz => ?_) ?_ ?_; rotate_left; (have hz6 := hz.1.cell hr6 (fun e => hrlg e.symm); have q0 := hz.1.cell e0 (fun e => hebl e.symm); have q1 := hz.1.cell e1 (fun e => hebl e.symm); have q2 := hz.1.cell e2 (fun e => hebl e.symm); have q3 := hz.1.cell e3 (fun e => hebl e.symm); have q4 := hz.1.cell e4 (fun e => hebl e.symm); go_simp; first | exact UponS.value (Since.refl _) | exact UponS.skip (Since.refl _)); (exact rfl); (try simp only [Act.put, List.setIfInBounds_toArray, List.set_cons_zero, List.set_cons_succ])
                  refine SeqT.run (v := ?_) rfl rfl (fun _ wz hz => ?_) ?_ ?_; rotate_left; (have hz6 := hz.1.cell hr6 (fun e => hrlg e.symm); have q0 := hz.1.cell e0 (fun e => hebl e.symm); have q1 := hz.1.cell e1 (fun e => hebl e.symm); have q2 := hz.1.cell e2 (fun e => hebl e.symm); have q3 := hz.1.cell e3 (fun e => hebl e.symm); have q4 := hz.1.cell e4 (fun e => hebl e.symm); go_simp; first | exact UponS.value (Since.refl _) | exact UponS.skip (Since.refl _)); (exact rfl); (try simp only [Act.put, List.setIfInBounds_toArray, List.set_cons_zero, List.set_cons_succ])
                  refine SeqT.tie rfl (by decide) rfl (fun wz hz hd => ?_) (fun v6 _ _ => ?_)
                  · have HJ : Hid (LogJ 178 lg evs.length xs [.int .i64 u, .int .i64 n, .int .i64 page, .slice vda K vdc, .slice voa K voc] wr.heap.size 6 (.slice (some ⟨wz.heap.size, 0, none⟩) 1 1) wz.heap.size (wz.heap.size + 1) (wz.alloc (.cells #[.int .i64 u, .int .i64 n, .int .i64 page, .slice vda K vdc, .slice voa K voc] 178))) := Lib.hid ⟨_, rfl, Blk.new wz 178 [_, _, _, _, _]⟩
                    clear hd hz
                    go_simp
                    exact UponT.value ⟨HJ.out, (Below.refl _ _).alloc (Nat.le_refl _) _⟩
                  (try simp only [Act.put, List.setIfInBounds_toArray, List.set_cons_zero, List.set_cons_succ])
                  refine SeqT.write rfl rfl rfl (fun wz hz hd => ?_) (fun v7 _ _ => ?_)
                  · obtain ⟨g8, rfl, hk8⟩ := hd.all 6 (by decide) v6 _ _ rfl
                    obtain ⟨v', w', hr, ho, hg, hat⟩ := run_append_lit (P := Try.prog) 0 94 94 178 i0 (.agg #[.int .i64 0, .int .i64 0, .int .i64 0, .slice none 0 0, .slice none 0 0]) 5 72 Try.underlying94 hif hz0 hz1' hz2' rfl (by decide) lg evs.length xs (own_below HW.out ((Below.refl _ _).drew.trans (hz.2 rfl).below)) g8 _ hk8 rfl (oneCell_ev _ _ _ _ _ _ _ _ _) (by unfold maxLen; omega) (by omega) (Nat.zero_le _)
                    refine UponT.append _ _ _ _ _ _ rfl rfl rfl hr ⟨⟨ho, ?_⟩, grownBy_trans hz.1 hg, fun e => by (cases e)⟩
                    rcases hat with hat | hat
                    · exact .inl hat
                    · exact .inr ⟨_, hat, hz.1.size⟩
                  (try simp only [Act.put, List.setIfInBounds_toArray, List.set_cons_zero, List.set_cons_succ])
                  refine SeqT.run (v := ?_) rfl rfl (fun _ wz hz => ?_) ?_ ?_; rotate_left; (have hz6 := hz.1.cell hr6 (fun e => hrlg e.symm); have q0 := hz.1.cell e0 (fun e => hebl e.symm); have q1 := hz.1.cell e1 (fun e => hebl e.symm); have q2 := hz.1.cell e2 (fun e => hebl e.symm); have q3 := hz.1.cell e3 (fun e => hebl e.symm); have q4 := hz.1.cell e4 (fun e => hebl e.symm); go_simp; first | exact UponS.value (Since.refl _) | exact UponS.skip (Since.refl _)); (exact rfl); (try simp only [Act.put, List.setIfInBounds_toArray, List.set_cons_zero, List.set_cons_succ])
                  refine SeqT.run (v := ?_) rfl rfl (fun _ wz hz => ?_) ?_ ?_; rotate_left; (have hz6 := hz.1.cell hr6 (fun e => hrlg e.symm); have q0 := hz.1.cell e0 (fun e => hebl e.symm); have q1 := hz.1.cell e1 (fun e => hebl e.symm); have q2 := hz.1.cell e2 (fun e => hebl e.symm); have q3 := hz.1.cell e3 (fun e => hebl e.symm); have q4 := hz.1.cell e4 (fun e => hebl e.symm); go_simp; first | exact UponS.value (Since.refl _) | exact UponS.skip (Since.refl _)); (exact rfl); (try simp only [Act.put, List.setIfInBounds_toArray, List.set_cons_zero, List.set_cons_succ])
                  intro wb hz hi
                  obtain ⟨ho, hat⟩ := hi.all 7 v7 _ _ rfl
                  obtain ⟨g9, c9, rfl⟩ := own_form ho (by omega)
                  have hKD := HKD.out
                  have hsl : ∀ {v : Value} {xss : List (List Int)}, RowsAt 5 45 wr w4.heap.size v xss → xss.length ≤ 100 → (∀ x ∈ xss, x.length ≤ 100) → Sls wb (RRows (fun k => (F k ∨ w4.heap.size ≤ k ∧ k < wr.heap.size) ∨ wr.heap.size ≤ k ∧ k < wb.heap.size) r pb nx wrr rt (.slice (some ⟨g9, 0, none⟩) (evs.length + 1) c9)) v xss := fun {v xss} h hl hx => by
                    refine ((h.sls hl hx).keep hz.1.size fun k hk hq => hz.1.block k hk fun e => ?_).mono fun k _ hq => ?_
                    · have := H4.out.inF _ (H4.out.mem.2.2.2.2.2 _ e.symm)
                      have := hq.1
                      omega
                    · obtain ⟨m1, m2, m3, m4, m5, m6⟩ := H4.out.mem
                      have n1 := H4.out.inF _ m1
                      have n2 := H4.out.inF _ m2
                      have n3 := H4.out.inF _ m3
                      have n4 := H4.out.inF _ m4
                      have n5 := H4.out.inF _ m5
                      have := hq.1
                      refine ⟨.inl (.inr hq), by omega, by omega, by omega, by omega, by omega, fun e => ?_⟩
                      rcases hat with hat | ⟨b', hat, hb'⟩
                      · rw [hat] at e
                        have := H4.out.inF _ (m6 _ e)
                        omega
                      · rw [hat] at e
                        have := Option.some.inj e
                        have := hq.2
                        omega
                  have H6 := Lib.hid (RNRaw.refew (m' := m + 1) (H5.out.append (w1 := wb) (w' := wb.setCell ⟨r, 6, none⟩ (.slice (some ⟨g9, 0, none⟩) (evs.length + 1) c9)) (e := ⟨u, n, page, data.take K, oob.take K⟩) (sc := setPage ⟨c, l, b, p, sn⟩ S.sec u n page (K : Nat) data oob) HV.out HW.out.1 rfl hz.1 hat ho (hsl HEr.out.d (by rw [hKD.1]; have := HKS.out; omega) (fun x hx => by rw [HLX.out.1 x (List.mem_of_mem_take hx)]; omega)) (hsl HEr.out.o (by rw [hKD.2]; have := HKS.out; omega) (fun x hx => by rw [HLX.out.2 x (List.mem_of_mem_take hx)]; omega)) (by rw [hKD.1, hKD.2]) (evSec_prog HRW.out.ok HRW.out.sec HI.out HFX.out HNX.out (by omega) K (by rw [HLEN.out.1]; exact HKS.out) (by rw [HLEN.out.1, HLEN.out.2]))) (by have h1 := HRW.out.few; rw [List.length_append, List.length_singleton]; omega))
                  have HO6 : Hid (OnlyF F w (wb.setCell ⟨r, 6, none⟩ (.slice (some ⟨g9, 0, none⟩) (evs.length + 1) c9))) := OnlyF.setCell (OnlyF.grownO (HO4.out.step HBr.out) H4.out.mem.2.2.2.2.2 hz.1) (p := ⟨r, 6, none⟩) H4.out.mem.1 _
                  have HF6 : Hid (Fresh F (fun k => (F k ∨ w4.heap.size ≤ k ∧ k < wr.heap.size) ∨ wr.heap.size ≤ k ∧ k < (wb.setCell ⟨r, 6, none⟩ (.slice (some ⟨g9, 0, none⟩) (evs.length + 1) c9)).heap.size) w.heap.size) := fun k hk => by
                    have := HBr.out.size
                    rcases hk with (hk | hk) | hk
                    · exact .inl hk
                    · exact .inr (by omega)
                    · exact .inr (by omega)
                  have hblkb : Blk wb r 97 _ := H5.out.blk.grown hz.1 hrlg
                  have hb6 := hblkb.cell 6
                  have hf6 := hblkb.free 6
                  have hlb6 := hblkb.lt
                  have hb10 : wb.cell? ⟨r, 10, none⟩ = some (.bool S.off) := hblkb.cell 10
                  have hf10 := hblkb.free 10
                  clear hz hi ho hat hsl hblkb e0 e1 e2 e3 e4 hr6
                  have HFIN : Hid (RNPost w F r ⟨c, l, b, p, sn⟩ (.int .i64 R.1) R.2 (m + 1) (.returned (.int .i64 8)) (wb.setCell ⟨r, 6, none⟩ (.slice (some ⟨g9, 0, none⟩) (evs.length + 1) c9))) := by
                    show RNPost _ _ _ _ _ _ _ _ _
                    rw [HR.out]
                    exact ⟨rfl, _, ⟨L, n0 + 1, _, pb, nx, wrr, rt, lv, _, H6.out⟩, HO6.out, HF6.out⟩
                  go_wp2_with fail
                  go_ret
                  exact HFIN.out
            · obtain ⟨K, rfl⟩ : ∃ K : Nat, kp = K := ⟨kp.toNat, by omega⟩
              have HKS : Hid (K ≤ sn) := show K ≤ sn by omega
              have HR3 := HR.out
              rw [if_neg (by decide)] at HR3
              clear HR
              have HR := Lib.hid HR3
              clear HR3
              go_wp2_with fail
              go_loopw [17] (fun t wr => ∃ (j : Nat) (vd vo : Value), j ≤ K ∧ t = .int .i64 j ∧ Hid (EvLoc wr w4.heap.size w4.heap.size u n page vd vo (data.take j) (oob.take j)) ∧ Hid (Below w4.heap.size w4 wr)) (fun t _ => ((K : Int) - intOf t).toNat)
              case atStart => exact ⟨0, _, _, Nat.zero_le _, rfl, HE0.out, HB0.out⟩
              case round =>
                obtain ⟨j, vd, vo, hj, rfl, HEr, HBr⟩ := hrel
                by_cases hlt : j < K
                · have hjs : j < sn := by have := HKS.out; omega
                  obtain ⟨x, hx⟩ : ∃ x, data[j]? = some x := ⟨_, List.getElem?_eq_getElem (by rw [HLEN.out.1]; omega)⟩
                  obtain ⟨y, hy⟩ : ∃ y, oob[j]? = some y := ⟨_, List.getElem?_eq_getElem (by rw [HLEN.out.2]; omega)⟩
                  have HX := Lib.hid hx
                  have HY := Lib.hid hy
                  have HXL := Lib.hid (HLX.out.1 x (List.mem_of_getElem? hx))
                  have HYL := Lib.hid (HLX.out.2 y (List.mem_of_getElem? hy))
                  have hj0 : (0 : Int) ≤ j := by omega
                  have hdl := HLEN.out.1
                  have hol := HLEN.out.2
                  clear hx hy
                  go_wp2_with fail
                  obtain ⟨gb, go, gua, guc, hge, hgq, hgl, hgc, hgs⟩ := (HD.out.away (HO4.out.step HBr.out)).getQ HX.out
                  subst hge
                  have hgs := Lib.hid hgs.sl
                  obtain ⟨row, hrow, hrow2⟩ := HEr.out.d
                  have hrl' : row.length = (List.take j data).length := by have := hrow.1; omega
                  rw [← hrl'] at hrow
                  have HRO := Lib.hid hrow
                  have HRO2 := Lib.hid hrow2
                  have hrl'' : row.length ≤ 4 := by rw [hrl', List.length_take]; omega
                  have hne : (vd).ownBlock ≠ some w4.heap.size := own_ne_blk hrow HEr.out.blk (by decide)
                  have hnd : (vd).ownBlock ≠ some gb := fun e => by have h1 := (hrow.lt gb e).1; have h2 := hgq.2; omega
                  have hce : wr.cell? ⟨w4.heap.size, 3, none⟩ = some vd := HEr.out.blk.cell 3
                  have hcd : wr.cell? ⟨gb, go + j, none⟩ = some (.slice gua (x).length guc) := hgc
                  have hsW := HBr.out.size
                  have hjd : (j : Int) < (data).length := by omega
                  have HRL := Lib.hid hrl'
                  clear hrow hrow2 hgc hgq hrl'
                  obtain ⟨i0, hif, hz0, hz1', hz2'⟩ := info_parts info_u8
                  obtain ⟨i1, hif1, hy0, hy1, hy2⟩ := info_parts info_u8s
                  refine wp_region_g 11 [(2, []), (7, [2]), (8, [7]), (9, [8])] 9 (fun q wz => wr.grownBy wz (vd).ownBlock ∧ (q = false → Since (wr).drew wz)) (CopyJ 5 45 w4.heap.size vd row x (wr).heap.size) [?_, ?_, undef, ?_, ?_, ?_, ?_, undef, undef, undef, ?_] (by kernel_rfl) (by kernel_rfl) (by kernel_rfl) ⟨grown_of_below (Below.refl _ _).drew _, fun _ => Since.refl _⟩ (fun b x y h1 h2 => ⟨grownBy_trans h1.1 (grown_of_below h2 _), fun e => (h1.2 e).trans h2⟩) CopyJ.keep ?_
                  rotate_left 7
                  simp only [List.take_succ_cons, List.take_zero, List.drop_succ_cons, List.drop_zero]
                  refine SeqT.run (v := ?_) rfl rfl (fun _ wz hz => ?_) ?_ ?_; rotate_left; (have hz1 := hz.1.cell hce (fun e => hne e.symm); have hz2 := hz.1.cell hcd (fun e => hnd e.symm); go_simp; first | exact UponS.value (Since.refl _) | exact UponS.skip (Since.refl _)); (exact rfl); (try simp only [Act.put, List.setIfInBounds_toArray, List.set_cons_zero, List.set_cons_succ])
                  refine SeqT.run (v := ?_) rfl rfl (fun _ wz hz => ?_) ?_ ?_; rotate_left; (have hz1 := hz.1.cell hce (fun e => hne e.symm); have hz2 := hz.1.cell hcd (fun e => hnd e.symm); go_simp; first | exact UponS.value (Since.refl _) | exact UponS.skip (Since.refl _)); (exact rfl); (try simp only [Act.put, List.setIfInBounds_toArray, List.set_cons_zero, List.set_cons_succ])
                  refine SeqT.tie rfl (by decide) rfl (fun wz hz hd => ?_) (fun v2 _ _ => ?_)
                  · have hzs := hz.1.size
                    clear hd hz
                    go_simp
                    exact UponT.value ⟨⟨wz.heap.size, rfl, by omega, Blk.new wz 5 []⟩, (Below.refl _ _).alloc (Nat.le_refl _) _⟩
                  (try simp only [Act.put, List.setIfInBounds_toArray, List.set_cons_zero, List.set_cons_succ])
                  refine SeqT.run (v := ?_) rfl rfl (fun _ wz hz => ?_) ?_ ?_; rotate_left; (have hz1 := hz.1.cell hce (fun e => hne e.symm); have hz2 := hz.1.cell hcd (fun e => hnd e.symm); go_simp; first | exact UponS.value (Since.refl _) | exact UponS.skip (Since.refl _)); (exact rfl); (try simp only [Act.put, List.setIfInBounds_toArray, List.set_cons_zero, List.set_cons_succ])
                  refine SeqT.run (v := ?_) rfl rfl (fun _ wz hz => ?_) ?_ ?_; rotate_left; (have hz1 := hz.1.cell hce (fun e => hne e.symm); have hz2 := hz.1.cell hcd (fun e => hnd e.symm); go_simp; first | exact UponS.value (Since.refl _) | exact UponS.skip (Since.refl _)); (exact rfl); (try simp only [Act.put, List.setIfInBounds_toArray, List.set_cons_zero, List.set_cons_succ])
                  refine SeqT.run (v := ?_) rfl rfl (fun _ wz hz => ?_) ?_ ?_; rotate_left; (have hz1 := hz.1.cell hce (fun e => hne e.symm); have hz2 := hz.1.cell hcd (fun e => hnd e.symm); go_simp; first | exact UponS.value (Since.refl _) | exact UponS.skip (Since.refl _)); (exact rfl); (try simp only [Act.put, List.setIfInBounds_toArray, List.set_cons_zero, List.set_cons_succ])
                  refine SeqT.run (v := ?_) rfl rfl (fun _ wz hz => ?_) ?_ ?_; rotate_left; (have hz1 := hz.1.cell hce (fun e => hne e.symm); have hz2 := hz.1.cell hcd (fun e => hnd e.symm); go_simp; first | exact UponS.value (Since.refl _) | exact UponS.skip (Since.refl _)); (exact rfl); (try simp only [Act.put, List.setIfInBounds_toArray, List.set_cons_zero, List.set_cons_succ])
                  refine SeqT.tie rfl (by decide) rfl (fun wz hz hd => ?_) (fun v7 _ _ => ?_)
                  · obtain ⟨g0, rfl, hg0, hk0'⟩ := hd.all 2 (by decide) v2 _ _ rfl
                    obtain ⟨v', w', hr, ho, hs⟩ := run_append_fresh (P := Try.prog) w4.heap.size 45 45 5 _ (.int .u8 0) 1 Try.underlying45 hif hz0 hz1' hz2' rfl g0 hg0 (by have := hz.1.size; omega) hk0' 0 (.slice gua (x).length guc) (bv x) (hgs.out.below ((Below.refl _ _).drew.trans (hz.2 rfl).below)) (by rw [bv_length, HXL.out]; unfold maxLen; omega) (by rw [bv_length, HXL.out]; omega)
                    rw [bv_length] at ho
                    exact UponT.append _ _ _ _ _ _ rfl rfl rfl hr ⟨ho, hs⟩
                  (try simp only [Act.put, List.setIfInBounds_toArray, List.set_cons_zero, List.set_cons_succ])
                  refine SeqT.tie rfl (by decide) rfl (fun wz hz hd => ?_) (fun v8 _ _ => ?_)
                  · have h7 : wz.ownsRow w4.heap.size 5 1 v7 (x).length (bv x) := hd.all 7 (by decide) v7 _ _ rfl
                    obtain ⟨q1, q2, rfl⟩ := own_slice h7
                    have HJ : Hid (CopyJ 5 45 w4.heap.size vd row x (wr).heap.size 8 (.slice (some ⟨wz.heap.size, 0, none⟩) 1 1) wz.heap.size (wz.heap.size + 1) (wz.alloc (.cells #[.slice q1 (x).length q2] 45))) := Lib.hid ⟨_, _, rfl, Blk.new wz 45 [_], h7.alloc _⟩
                    clear hd h7 hz
                    go_simp
                    exact UponT.value ⟨HJ.out, (Below.refl _ _).alloc (Nat.le_refl _) _⟩
                  (try simp only [Act.put, List.setIfInBounds_toArray, List.set_cons_zero, List.set_cons_succ])
                  refine SeqT.write rfl rfl rfl (fun wz hz hd => ?_) (fun v9 _ _ => ?_)
                  · obtain ⟨g8, vx, rfl, hk8, hx8⟩ := hd.all 8 (by decide) v8 _ _ rfl
                    obtain ⟨q1, q2, rfl⟩ := own_slice hx8
                    have hown := own_below HRO.out ((Below.refl _ _).drew.trans (hz.2 rfl).below)
                    obtain ⟨v', w', hr, ho, hg, hat⟩ := run_append_lit (P := Try.prog) w4.heap.size 41 41 45 i1 (.slice none 0 0) 1 24 Try.underlying41 hif1 hy0 hy1 hy2 rfl (by decide) vd row.length row hown g8 _ hk8 rfl (oneCell_slice _ _ _) (by unfold maxLen; omega) (by omega) (by have := hz.1.size; omega)
                    refine UponT.append _ _ _ _ _ _ rfl rfl rfl hr ⟨⟨_, ho, hx8.kept hg (own_ne_own hx8 hown (by decide)), ?_⟩, grownBy_trans hz.1 hg, fun e => by (cases e)⟩
                    rcases hat with hat | hat
                    · exact .inl hat
                    · exact .inr ⟨_, hat, hz.1.size⟩
                  (try simp only [Act.put, List.setIfInBounds_toArray, List.set_cons_zero, List.set_cons_succ])
                  refine SeqT.run (v := ?_) rfl rfl (fun _ wz hz => ?_) ?_ ?_; rotate_left; (have hz1 := hz.1.cell hce (fun e => hne e.symm); have hz2 := hz.1.cell hcd (fun e => hnd e.symm); go_simp; first | exact UponS.value (Since.refl _) | exact UponS.skip (Since.refl _)); (exact rfl); (try simp only [Act.put, List.setIfInBounds_toArray, List.set_cons_zero, List.set_cons_succ])
                  intro wb hz hi
                  obtain ⟨vx, ho, hx, hat⟩ := hi.all 9 v9 _ _ rfl
                  obtain ⟨g9, c9, rfl⟩ := own_form ho (by omega)
                  have hEv := HEr.out.stepD (by rw [← HRL.out]; exact HRO.out) HRO2.out hz.1 ho hx hat
                  have hbb : Blk wb w4.heap.size 178 _ := HEr.out.blk.grown hz.1 hne
                  have hcb := hbb.cell 3
                  have hfb := hbb.free 3
                  have hlb := hbb.lt
                  have hBn : Below w4.heap.size w4 (wb.setCell ⟨w4.heap.size, 3, none⟩ (.slice (some ⟨g9, 0, none⟩) (row.length + 1) c9)) := ((HBr.out).grown hz.1 hsW (fun k e => (HRO.out.lt k e).1)).setCell (p := ⟨w4.heap.size, 3, none⟩) (Nat.le_refl _) _
                  have HEc := Lib.hid hEv
                  have HBc := Lib.hid hBn
                  clear hEv hBn hbb hz hi ho hx hat HRO HRO2 hgs hce hcd hne hnd hgl hrl'' hsW hjd hif hz0 hz1' hz2' hif1 hy0 hy1 hy2 HRL
                  go_wp2_with fail
                  clear hcb hfb hlb
                  generalize wb.setCell ⟨w4.heap.size, 3, none⟩ (.slice (some ⟨g9, 0, none⟩) (row.length + 1) c9) = wc at HEc HBc ⊢
                  generalize Value.slice (some ⟨g9, 0, none⟩) (row.length + 1) c9 = vd at HEc
                  obtain ⟨gb, go, gua, guc, hge, hgq, hgl, hgc, hgs⟩ := (HOO.out.away (HO4.out.step HBc.out)).getQ HY.out
                  subst hge
                  have hgs := Lib.hid hgs.sl
                  obtain ⟨row, hrow, hrow2⟩ := HEc.out.o
                  have hrl' : row.length = (List.take j oob).length := by have := hrow.1; omega
                  rw [← hrl'] at hrow
                  have HRO := Lib.hid hrow
                  have HRO2 := Lib.hid hrow2
                  have hrl'' : row.length ≤ 4 := by rw [hrl', List.length_take]; omega
                  have hne : (vo).ownBlock ≠ some w4.heap.size := own_ne_blk hrow HEc.out.blk (by decide)
                  have hnd : (vo).ownBlock ≠ some gb := fun e => by have h1 := (hrow.lt gb e).1; have h2 := hgq.2; omega
                  have hce : wc.cell? ⟨w4.heap.size, 4, none⟩ = some vo := HEc.out.blk.cell 4
                  have hcd : wc.cell? ⟨gb, go + j, none⟩ = some (.slice gua (y).length guc) := hgc
                  have hsW := HBc.out.size
                  have hjd : (j : Int) < (oob).length := by omega
                  have HRL := Lib.hid hrl'
                  clear hrow hrow2 hgc hgq hrl'
                  obtain ⟨i0, hif, hz0, hz1', hz2'⟩ := info_parts info_u8
                  obtain ⟨i1, hif1, hy0, hy1, hy2⟩ := info_parts info_u8s
                  refine wp_region_g 11 [(2, []), (7, [2]), (8, [7]), (9, [8])] 9 (fun q wz => wc.grownBy wz (vo).ownBlock ∧ (q = false → Since (wc).drew wz)) (CopyJ 5 45 w4.heap.size vo row y (wc).heap.size) [?_, ?_, undef, ?_, ?_, ?_, ?_, undef, undef, undef, ?_] (by kernel_rfl) (by kernel_rfl) (by kernel_rfl) ⟨grown_of_below (Below.refl _ _).drew _, fun _ => Since.refl _⟩ (fun b x y h1 h2 => ⟨grownBy_trans h1.1 (grown_of_below h2 _), fun e => (h1.2 e).trans h2⟩) CopyJ.keep ?_
                  rotate_left 7
                  simp only [List.take_succ_cons, List.take_zero, List.drop_succ_cons, List.drop_zero]
                  refine SeqT.run (v := ?_) rfl rfl (fun _ wz hz => ?_) ?_ ?_; rotate_left; (have hz1 := hz.1.cell hce (fun e => hne e.symm); have hz2 := hz.1.cell hcd (fun e => hnd e.symm); go_simp; first | exact UponS.value (Since.refl _) | exact UponS.skip (Since.refl _)); (exact rfl); (try simp only [Act.put, List.setIfInBounds_toArray, List.set_cons_zero, List.set_cons_succ])
                  refine SeqT.run (v := ?_) rfl rfl (fun _ wz hz => ?_) ?_ ?_; rotate_left; (have hz1 := hz.1.cell hce (fun e => hne e.symm); have hz2 := hz.1.cell hcd (fun e => hnd e.symm); go_simp; first | exact UponS.value (Since.refl _) | exact UponS.skip (Since.refl _)); (exact rfl); (try simp only [Act.put, List.setIfInBounds_toArray, List.set_cons_zero, List.set_cons_succ])
                  refine SeqT.tie rfl (by decide) rfl (fun wz hz hd => ?_) (fun v2 _ _ => ?_)
                  · have hzs := hz.1.size
                    clear hd hz
                    go_simp
                    exact UponT.value ⟨⟨wz.heap.size, rfl, by omega, Blk.new wz 5 []⟩, (Below.refl _ _).alloc (Nat.le_refl _) _⟩
                  (try simp only [Act.put, List.setIfInBounds_toArray, List.set_cons_zero, List.set_cons_succ])
                  refine SeqT.run (v := ?_) rfl rfl (fun _ wz hz => ?_) ?_ ?_; rotate_left; (have hz1 := hz.1.cell hce (fun e => hne e.symm); have hz2 := hz.1.cell hcd (fun e => hnd e.symm); go_simp; first | exact UponS.value (Since.refl _) | exact UponS.skip (Since.refl _)); (exact rfl); (try simp only [Act.put, List.setIfInBounds_toArray, List.set_cons_zero, List.set_cons_succ])
                  refine SeqT.run (v := ?_) rfl rfl (fun _ wz hz => ?_) ?_ ?_; rotate_left; (have hz1 := hz.1.cell hce (fun e => hne e.symm); have hz2 := hz.1.cell hcd (fun e => hnd e.symm); go_simp; first | exact UponS.value (Since.refl _) | exact UponS.skip (Since.refl _)); (exact rfl); (try simp only [Act.put, List.setIfInBounds_toArray, List.set_cons_zero, List.set_cons_succ])
                  refine SeqT.run (v := ?_) rfl rfl (fun _ wz hz => ?_) ?_ ?_; rotate_left; (have hz1 := hz.1.cell hce (fun e => hne e.symm); have hz2 := hz.1.cell hcd (fun e => hnd e.symm); go_simp; first | exact UponS.value (Since.refl _) | exact UponS.skip (Since.refl _)); (exact rfl); (try simp only [Act.put, List.setIfInBounds_toArray, List.set_cons_zero, List.set_cons_succ])
                  refine SeqT.run (v := ?_) rfl rfl (fun _ wz hz => ?_) ?_ ?_; rotate_left; (have hz1 := hz.1.cell hce (fun e => hne e.symm); have hz2 := hz.1.cell hcd (fun e => hnd e.symm); go_simp; first | exact UponS.value (Since.refl _) | exact UponS.skip (Since.refl _)); (exact rfl); (try simp only [Act.put, List.setIfInBounds_toArray, List.set_cons_zero, List.set_cons_succ])
                  refine SeqT.tie rfl (by decide) rfl (fun wz hz hd => ?_) (fun v7 _ _ => ?_)
                  · obtain ⟨g0, rfl, hg0, hk0'⟩ := hd.all 2 (by decide) v2 _ _ rfl
                    obtain ⟨v', w', hr, ho, hs⟩ := run_append_fresh (P := Try.prog) w4.heap.size 45 45 5 _ (.int .u8 0) 1 Try.underlying45 hif hz0 hz1' hz2' rfl g0 hg0 (by have := hz.1.size; omega) hk0' 0 (.slice gua (y).length guc) (bv y) (hgs.out.below ((Below.refl _ _).drew.trans (hz.2 rfl).below)) (by rw [bv_length, HYL.out]; unfold maxLen; omega) (by rw [bv_length, HYL.out]; omega)
                    rw [bv_length] at ho
                    exact UponT.append _ _ _ _ _ _ rfl rfl rfl hr ⟨ho, hs⟩
                  (try simp only [Act.put, List.setIfInBounds_toArray, List.set_cons_zero, List.set_cons_succ])
                  refine SeqT.tie rfl (by decide) rfl (fun wz hz hd => ?_) (fun v8 _ _ => ?_)
                  · have h7 : wz.ownsRow w4.heap.size 5 1 v7 (y).length (bv y) := hd.all 7 (by decide) v7 _ _ rfl
                    obtain ⟨q1, q2, rfl⟩ := own_slice h7
                    have HJ : Hid (CopyJ 5 45 w4.heap.size vo row y (wc).heap.size 8 (.slice (some ⟨wz.heap.size, 0, none⟩) 1 1) wz.heap.size (wz.heap.size + 1) (wz.alloc (.cells #[.slice q1 (y).length q2] 45))) := Lib.hid ⟨_, _, rfl, Blk.new wz 45 [_], h7.alloc _⟩
                    clear hd h7 hz
                    go_simp
                    exact UponT.value ⟨HJ.out, (Below.refl _ _).alloc (Nat.le_refl _) _⟩
                  (try simp only [Act.put, List.setIfInBounds_toArray, List.set_cons_zero, List.set_cons_succ])
                  refine SeqT.write rfl rfl rfl (fun wz hz hd => ?_) (fun v9 _ _ => ?_)
                  · obtain ⟨g8, vx, rfl, hk8, hx8⟩ := hd.all 8 (by decide) v8 _ _ rfl
                    obtain ⟨q1, q2, rfl⟩ := own_slice hx8
                    have hown := own_below HRO.out ((Below.refl _ _).drew.trans (hz.2 rfl).below)
                    obtain ⟨v', w', hr, ho, hg, hat⟩ := run_append_lit (P := Try.prog) w4.heap.size 41 41 45 i1 (.slice none 0 0) 1 24 Try.underlying41 hif1 hy0 hy1 hy2 rfl (by decide) vo row.length row hown g8 _ hk8 rfl (oneCell_slice _ _ _) (by unfold maxLen; omega) (by omega) (by have := hz.1.size; omega)
                    refine UponT.append _ _ _ _ _ _ rfl rfl rfl hr ⟨⟨_, ho, hx8.kept hg (own_ne_own hx8 hown (by decide)), ?_⟩, grownBy_trans hz.1 hg, fun e => by (cases e)⟩
                    rcases hat with hat | hat
                    · exact .inl hat
                    · exact .inr ⟨_, hat, hz.1.size⟩
                  (try simp only [Act.put, List.setIfInBounds_toArray, List.set_cons_zero, List.set_cons_succ])
                  refine SeqT.run (v := ?_) rfl rfl (fun _ wz hz => ?_) ?_ ?_; rotate_left; (have hz1 := hz.1.cell hce (fun e => hne e.symm); have hz2 := hz.1.cell hcd (fun e => hnd e.symm); go_simp; first | exact UponS.value (Since.refl _) | exact UponS.skip (Since.refl _)); (exact rfl); (try simp only [Act.put, List.setIfInBounds_toArray, List.set_cons_zero, List.set_cons_succ])
                  intro wb hz hi
                  obtain ⟨vx, ho, hx, hat⟩ := hi.all 9 v9 _ _ rfl
                  obtain ⟨g9, c9, rfl⟩ := own_form ho (by omega)
                  have hEv := HEc.out.stepO (by rw [← HRL.out]; exact HRO.out) HRO2.out hz.1 ho hx hat
                  have hbb : Blk wb w4.heap.size 178 _ := HEc.out.blk.grown hz.1 hne
                  have hcb := hbb.cell 4
                  have hfb := hbb.free 4
                  have hlb := hbb.lt
                  have hBn : Below w4.heap.size w4 (wb.setCell ⟨w4.heap.size, 4, none⟩ (.slice (some ⟨g9, 0, none⟩) (row.length + 1) c9)) := ((HBc.out).grown hz.1 hsW (fun k e => (HRO.out.lt k e).1)).setCell (p := ⟨w4.heap.size, 4, none⟩) (Nat.le_refl _) _
                  have HEd := Lib.hid hEv
                  have HBd := Lib.hid hBn
                  clear hEv hBn hbb hz hi ho hx hat HRO HRO2 hgs hce hcd hne hnd hgl hrl'' hsW hjd hif hz0 hz1' hz2' hif1 hy0 hy1 hy2 HRL
                  go_wp2_with fail
                  clear hcb hfb hlb
                  generalize wb.setCell ⟨w4.heap.size, 4, none⟩ (.slice (some ⟨g9, 0, none⟩) (row.length + 1) c9) = wd at HEd HBd ⊢
                  generalize Value.slice (some ⟨g9, 0, none⟩) (row.length + 1) c9 = vo at HEd
                  have hEE := HEd.out
                  rw [show List.take j data ++ [x] = List.take (j + 1) data by rw [List.take_add_one, HX.out]; rfl, show List.take j oob ++ [y] = List.take (j + 1) oob by rw [List.take_add_one, HY.out]; rfl] at hEE
                  have HEE := Lib.hid hEE
                  clear hEE HEd
                  go_wp2_with fail
                  go_roundw
                  case rel => exact ⟨j + 1, _, _, by omega, by go_num, HEE.out, HBd.out⟩
                  case measure => simp [intOf]; omega
                · obtain rfl : K = j := by omega
                  have h5 := (H4.out.below HBr.out).wide (F2 := fun k => F k ∨ w4.heap.size ≤ k ∧ k < wr.heap.size) (fun k hk => .inl hk) (fun k hk => hk.elim (fun hk => Nat.lt_of_lt_of_le (H4.out.inF k hk) HBr.out.size) fun hk => hk.2)
                  have H5 := Lib.hid h5
                  have hr6 : wr.cell? ⟨r, 6, none⟩ = some lg := h5.blk.cell 6
                  have hrl5 := h5.blk.lt
                  have hrlg : lg.ownBlock ≠ some r := fun e => (h5.logA r e).1 rfl
                  have hebl : lg.ownBlock ≠ some w4.heap.size := fun e => by have := H4.out.inF _ (H4.out.mem.2.2.2.2.2 _ e); omega
                  obtain ⟨xs, hown, hev⟩ := h5.log
                  have HW := Lib.hid hown
                  have HV := Lib.hid hev
                  have e0 : wr.cell? ⟨w4.heap.size, 0, none⟩ = some (.int .i64 u) := HEr.out.blk.cell 0
                  have e1 : wr.cell? ⟨w4.heap.size, 1, none⟩ = some (.int .i64 n) := HEr.out.blk.cell 1
                  have e2 : wr.cell? ⟨w4.heap.size, 2, none⟩ = some (.int .i64 page) := HEr.out.blk.cell 2
                  have e3 : wr.cell? ⟨w4.heap.size, 3, none⟩ = some vd := HEr.out.blk.cell 3
                  have e4 : wr.cell? ⟨w4.heap.size, 4, none⟩ = some vo := HEr.out.blk.cell 4
                  have hel := HEr.out.blk.lt
                  have hfw : evs.length ≤ m := HRW.out.few.2
                  obtain ⟨_, hvd, _⟩ := HEr.out.d
                  obtain ⟨_, hvo, _⟩ := HEr.out.o
                  have hKD : (data.take K).length = K ∧ (oob.take K).length = K := by have h1 := HLEN.out; have h2 := HKS.out; rw [List.length_take, List.length_take]; omega
                  obtain ⟨vda, vdc, hvde⟩ := own_slice hvd
                  obtain ⟨voa, voc, hvoe⟩ := own_slice hvo
                  rw [hKD.1] at hvde
                  rw [hKD.2] at hvoe
                  subst hvde hvoe
                  have HKD := Lib.hid hKD
                  obtain ⟨i0, hif, hz0, hz1', hz2'⟩ := info_parts info_event
                  clear h5 hown hev hvd hvo b4 hKD
                  go_wp2_with fail
                  refine wp_region_g 10 [(6, []), (7, [6])] 7 (fun q wz => wr.grownBy wz lg.ownBlock ∧ (q = false → Since wr.drew wz)) (LogJ 178 lg evs.length xs [.int .i64 u, .int .i64 n, .int .i64 page, .slice vda K vdc, .slice voa K voc] wr.heap.size) [?_, ?_, ?_, ?_, ?_, ?_, undef, undef, ?_, ?_] (by kernel_rfl) (by kernel_rfl) (by kernel_rfl) ⟨grown_of_below (Below.refl _ _).drew _, fun _ => Since.refl _⟩ (fun b x y h1 h2 => ⟨grownBy_trans h1.1 (grown_of_below h2 _), fun e => (h1.2 e).trans h2⟩) LogJ.keep ?_
                  rotate_left 8
                  simp only [List.take_succ_cons, List.take_zero, List.drop_succ_cons, List.drop_zero]
                  refine SeqT.run (v := ?_) rfl rfl (fun _ wz hz => ?_) ?_ ?_; rotate_left; (have hz6 := hz.1.cell hr6 (fun e => hrlg e.symm); have q0 := hz.1.cell e0 (fun e => hebl e.symm); have q1 := hz.1.cell e1 (fun e => hebl e.symm); have q2 := hz.1.cell e2 (fun e => hebl e.symm); have q3 := hz.1.cell e3 (fun e => hebl e.symm); have q4 := hz.1.cell e4 (fun e => hebl e.symm); go_simp; first | exact UponS.value (Since.refl _) | exact UponS.skip (Since.refl _)); (exact rfl); (try simp only [Act.put, List.setIfInBounds_toArray, List.set_cons_zero, List.set_cons_succ])
                  refine SeqT.run (v := ?_) rfl rfl (fun _ wz hz => ?_) ?_ ?_; rotate_left; (have hz6 := hz.1.cell hr6 (fun e => hrlg e.symm); have q0 := hz.1.cell e0 (fun e => hebl e.symm); have q1 := hz.1.cell e1 (fun e => hebl e.symm); have q2 := hz.1.cell e2 (fun e => hebl e.symm); have q3 := hz.1.cell e3 (fun e => hebl e.symm); have q4 := hz.1.cell e4 (fun e => hebl e.symm); go_simp; first | exact UponS.value (Since.refl _) | exact UponS.skip (Since.refl _)); (exact rfl); (try simp only [Act.put, List.setIfInBounds_toArray, List.set_cons_zero, List.set_cons_succ])
                  refine SeqT.run (v := ?_) rfl rfl (fun _ wz hz => ?_) ?_ ?_; rotate_left; (have hz6 := hz.1.cell hr6 (fun e => hrlg e.symm); have q0 := hz.1.cell e0 (fun e => hebl e.symm); have q1 := hz.1.cell e1 (fun e => hebl e.symm); have q2 := hz.1.cell e2 (fun e => hebl e.symm); have q3 := hz.1.cell e3 (fun e => hebl e.symm); have q4 := hz.1.cell e4 (fun e => hebl e.symm); go_simp; first | exact UponS.value (Since.refl _) | exact UponS.skip (Since.refl _)); (exact rfl); (try simp only [Act.put, List.setIfInBounds_toArray, List.set_cons_zero, List.set_cons_succ])
                  refine SeqT.run (v := ?_) rfl rfl (fun _ wz hz => ?_) ?_ ?_; rotate_left; (have hz6 := hz.1.cell hr6 (fun e => hrlg e.symm); have q0 := hz.1.cell e0 (fun e => hebl e.symm); have q1 := hz.1.cell e1 (fun e => hebl e.symm); have q2 := hz.1.cell e2 (fun e => hebl e.symm); have q3 := hz.1.cell e3 (fun e => hebl e.symm); have q4 := hz.1.cell e4 (fun e => hebl e.symm); go_simp; first | exact UponS.value (Since.refl _) | exact UponS.skip (Since.refl _)); (exact rfl); (try simp only [Act.put, List.setIfInBounds_toArray, List.set_cons_zero, List.set_cons_succ])
                  refine SeqT.run (v := ?_) rfl rfl (fun _ wz hz => ?_) ?_ ?_; rotate_left; (have hz6 := hz.1.cell hr6 (fun e => hrlg e.symm); have q0 := hz.1.cell e0 (fun e => hebl e.symm); have q1 := hz.1.cell e1 (fun e => hebl e.symm); have q2 := hz.1.cell e2 (fun e => hebl e.symm); have q3 := hz.1.cell e3 (fun e => hebl e.symm); have q4 := hz.1.cell e4 (fun e => hebl e.symm); go_simp; first | exact UponS.value (Since.refl _) | exact UponS.skip (Since.refl _)); (exact rfl); (try simp only [Act.put, List.setIfInBounds_toArray, List.set_cons_zero, List.set_cons_succ])
                  refine SeqT.run (v := ?_) rfl rfl (fun _ wz hz => ?_) ?_ ?_; rotate_left; (have hz6 := hz.1.cell hr6 (fun e => hrlg e.symm); have q0 := hz.1.cell e0 (fun e => hebl e.symm); have q1 := hz.1.cell e1 (fun e => hebl e.symm); have q2 := hz.1.cell e2 (fun e => hebl e.symm); have q3 := hz.1.cell e3 (fun e => hebl e.symm); have q4 := hz.1.cell e4 (fun e => hebl e.symm); go_simp; first | exact UponS.value (Since.refl _) | exact UponS.skip (Since.refl _)); (exact rfl); (try simp only [Act.put, List.setIfInBounds_toArray, List.set_cons_zero, List.set_cons_succ])
                  refine SeqT.tie rfl (by decide) rfl (fun wz hz hd => ?_) (fun v6 _ _ => ?_)
                  · have HJ : Hid (LogJ 178 lg evs.length xs [.int .i64 u, .int .i64 n, .int .i64 page, .slice vda K vdc, .slice voa K voc] wr.heap.size 6 (.slice (some ⟨wz.heap.size, 0, none⟩) 1 1) wz.heap.size (wz.heap.size + 1) (wz.alloc (.cells #[.int .i64 u, .int .i64 n, .int .i64 page, .slice vda K vdc, .slice voa K voc] 178))) := Lib.hid ⟨_, rfl, Blk.new wz 178 [_, _, _, _, _]⟩
                    clear hd hz
                    go_simp
                    exact UponT.value ⟨HJ.out, (Below.refl _ _).alloc (Nat.le_refl _) _⟩
                  (try simp only [Act.put, List.setIfInBounds_toArray, List.set_cons_zero, List.set_cons_succ])
                  refine SeqT.write rfl rfl rfl (fun wz hz hd => ?_) (fun v7 _ _ => ?_)
                  · obtain ⟨g8, rfl, hk8⟩ := hd.all 6 (by decide) v6 _ _ rfl
                    obtain ⟨v', w', hr, ho, hg, hat⟩ := run_append_lit (P := Try.prog) 0 94 94 178 i0 (.agg #[.int .i64 0, .int .i64 0, .int .i64 0, .slice none 0 0, .slice none 0 0]) 5 72 Try.underlying94 hif hz0 hz1' hz2' rfl (by decide) lg evs.length xs (own_below HW.out ((Below.refl _ _).drew.trans (hz.2 rfl).below)) g8 _ hk8 rfl (oneCell_ev _ _ _ _ _ _ _ _ _) (by unfold maxLen; omega) (by omega) (Nat.zero_le _)
                    refine UponT.append _ _ _ _ _ _ rfl rfl rfl hr ⟨⟨ho, ?_⟩, grownBy_trans hz.1 hg, fun e => by (cases e)⟩
                    rcases hat with hat | hat
                    · exact .inl hat
                    · exact .inr ⟨_, hat, hz.1.size⟩
                  (try simp only [Act.put, List.setIfInBounds_toArray, List.set_cons_zero, List.set_cons_succ])
                  refine SeqT.run (v := ?_) rfl rfl (fun _ wz hz => ?_) ?_ ?_; rotate_left; (have hz6 := hz.1.cell hr6 (fun e => hrlg e.symm); have q0 := hz.1.cell e0 (fun e => hebl e.symm); have q1 := hz.1.cell e1 (fun e => hebl e.symm); have q2 := hz.1.cell e2 (fun e => hebl e.symm); have q3 := hz.1.cell e3 (fun e => hebl e.symm); have q4 := hz.1.cell e4 (fun e => hebl e.symm); go_simp; first | exact UponS.value (Since.refl _) | exact UponS.skip (Since.refl _)); (exact rfl); (try simp only [Act.put, List.setIfInBounds_toArray, List.set_cons_zero, List.set_cons_succ])
                  refine SeqT.run (v := ?_) rfl rfl (fun _ wz hz => ?_) ?_ ?_; rotate_left; (have hz6 := hz.1.cell hr6 (fun e => hrlg e.symm); have q0 := hz.1.cell e0 (fun e => hebl e.symm); have q1 := hz.1.cell e1 (fun e => hebl e.symm); have q2 := hz.1.cell e2 (fun e => hebl e.symm); have q3 := hz.1.cell e3 (fun e => hebl e.symm); have q4 := hz.1.cell e4 (fun e => hebl e.symm); go_simp; first | exact UponS.value (Since.refl _) | exact UponS.skip (Since.refl _)); (exact rfl); (try simp only [Act.put, List.setIfInBounds_toArray, List.set_cons_zero, List.set_cons_succ])
                  intro wb hz hi
                  obtain ⟨ho, hat⟩ := hi.all 7 v7 _ _ rfl
                  obtain ⟨g9, c9, rfl⟩ := own_form ho (by omega)
                  have hKD := HKD.out
                  have hsl : ∀ {v : Value} {xss : List (List Int)}, RowsAt 5 45 wr w4.heap.size v xss → xss.length ≤ 100 → (∀ x ∈ xss, x.length ≤ 100) → Sls wb (RRows (fun k => (F k ∨ w4.heap.size ≤ k ∧ k < wr.heap.size) ∨ wr.heap.size ≤ k ∧ k < wb.heap.size) r pb nx wrr rt (.slice (some ⟨g9, 0, none⟩) (evs.length + 1) c9)) v xss := fun {v xss} h hl hx => by
                    refine ((h.sls hl hx).keep hz.1.size fun k hk hq => hz.1.block k hk fun e => ?_).mono fun k _ hq => ?_
                    · have := H4.out.inF _ (H4.out.mem.2.2.2.2.2 _ e.symm)
                      have := hq.1
                      omega
                    · obtain ⟨m1, m2, m3, m4, m5, m6⟩ := H4.out.mem
                      have n1 := H4.out.inF _ m1
                      have n2 := H4.out.inF _ m2
                      have n3 := H4.out.inF _ m3
                      have n4 := H4.out.inF _ m4
                      have n5 := H4.out.inF _ m5
                      have := hq.1
                      refine ⟨.inl (.inr hq), by omega, by omega, by omega, by omega, by omega, fun e => ?_⟩
                      rcases hat with hat | ⟨b', hat, hb'⟩
                      · rw [hat] at e
                        have := H4.out.inF _ (m6 _ e)
                        omega
                      · rw [hat] at e
                        have := Option.some.inj e
                        have := hq.2
                        omega
                  have H6 := Lib.hid (RNRaw.refew (m' := m + 1) (H5.out.append (w1 := wb) (w' := wb.setCell ⟨r, 6, none⟩ (.slice (some ⟨g9, 0, none⟩) (evs.length + 1) c9)) (e := ⟨u, n, page, data.take K, oob.take K⟩) (sc := setPage ⟨c, l, b, p, sn⟩ S.sec u n page (K : Nat) data oob) HV.out HW.out.1 rfl hz.1 hat ho (hsl HEr.out.d (by rw [hKD.1]; have := HKS.out; omega) (fun x hx => by rw [HLX.out.1 x (List.mem_of_mem_take hx)]; omega)) (hsl HEr.out.o (by rw [hKD.2]; have := HKS.out; omega) (fun x hx => by rw [HLX.out.2 x (List.mem_of_mem_take hx)]; omega)) (by rw [hKD.1, hKD.2]) (evSec_prog HRW.out.ok HRW.out.sec HI.out HFX.out HNX.out (by omega) K (by rw [HLEN.out.1]; exact HKS.out) (by rw [HLEN.out.1, HLEN.out.2]))) (by have h1 := HRW.out.few; rw [List.length_append, List.length_singleton]; omega))
                  have HO6 : Hid (OnlyF F w (wb.setCell ⟨r, 6, none⟩ (.slice (some ⟨g9, 0, none⟩) (evs.length + 1) c9))) := OnlyF.setCell (OnlyF.grownO (HO4.out.step HBr.out) H4.out.mem.2.2.2.2.2 hz.1) (p := ⟨r, 6, none⟩) H4.out.mem.1 _
                  have HF6 : Hid (Fresh F (fun k => (F k ∨ w4.heap.size ≤ k ∧ k < wr.heap.size) ∨ wr.heap.size ≤ k ∧ k < (wb.setCell ⟨r, 6, none⟩ (.slice (some ⟨g9, 0, none⟩) (evs.length + 1) c9)).heap.size) w.heap.size) := fun k hk => by
                    have := HBr.out.size
                    rcases hk with (hk | hk) | hk
                    · exact .inl hk
                    · exact .inr (by omega)
                    · exact .inr (by omega)
                  have hblkb : Blk wb r 97 _ := H5.out.blk.grown hz.1 hrlg
                  have hb6 := hblkb.cell 6
                  have hf6 := hblkb.free 6
                  have hlb6 := hblkb.lt
                  have hb10 : wb.cell? ⟨r, 10, none⟩ = some (.bool S.off) := hblkb.cell 10
                  have hf10 := hblkb.free 10
                  clear hz hi ho hat hsl hblkb e0 e1 e2 e3 e4 hr6
                  have HFIN : Hid (RNPost w F r ⟨c, l, b, p, sn⟩ (.int .i64 R.1) R.2 (m + 1) (.returned (.int .i64 5)) ((wb.setCell ⟨r, 6, none⟩ (.slice (some ⟨g9, 0, none⟩) (evs.length + 1) c9)).setCell ⟨r, 10, none⟩ (.bool true))) := by
                    show RNPost _ _ _ _ _ _ _ _ _
                    rw [HR.out]
                    exact ⟨rfl, _, ⟨L, n0 + 1, _, pb, nx, wrr, rt, lv, _, H6.out.setOff true⟩, HO6.out.setCell (p := ⟨r, 10, none⟩) H4.out.mem.1 _, HF6.out⟩
                  go_wp2_with fail
                  go_ret
                  exact HFIN.out
          · have HRX : Hid (R = (7, S.bad)) := by show _ = _; rw [HR.out, if_pos hnx]
            have hnb : (S.next i != page) = true := by simp [hnx]
            clear hnx HRW
            (go_wp2_with fail); refine (ref08Wrong_any H1.out 7).mono ?_
            intro e w9 hp
            obtain ⟨rfl, hq⟩ := hp
            have HFIN : Hid (RNPost w F r ⟨c, l, b, p, sn⟩ (.int .i64 R.1) R.2 (m + 1) (.returned (.int .i64 7)) w9) := by
              show RNPost _ _ _ _ _ _ _ _ _
              rw [HRX.out]
              exact RNPost.from (F1 := F) (RNPost.more (m := m) ⟨rfl, hq⟩ (by omega)) HO1.out (Fresh.refl _ _)
            clear hq
            go_wp2_with fail
            go_ret
            exact HFIN.out

end Go.Proofs.Ytlkapaecaeldpaa
